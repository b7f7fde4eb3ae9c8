/- Two nets side by side, the program's and the reference's. -/
import Derived.Test.YtgknafhpfghbjaaCntLaw
import Derived.Test.YtgknafhpfghbjaaRefTake
set_option linter.unusedVariables false
set_option linter.unusedSimpArgs false
namespace Go.Proofs.Ytgknafhpfghbjaa.X
open Go.RowKit Go.Proofs.Ytgknafhpfghbjaa.B Go.Proofs.Ytgknafhpfghbjaa Go.Proofs.YtgknafhpfghbjaaW.PrintWords Go.Proofs.YtgknafhpfghbjaaW.PrintLast Go.Proofs.YtgknafhpfghbjaaW.PrintMore

/-- The blocks that a net may have beside the row of value u and the blocks E. -/
def Off (u : Value) (E : Nat → Prop) : Nat → Prop := fun k => some k ≠ u.ownBlock ∧ ¬ E k
/-- Two nets that share no row; neither has a block of E. -/
structure Two (w W : World) (g h : Nat) (E : Nat → Prop) (xs ys : List S32) (v u : Value) : Prop where
  below : Below w.heap.size w W
  n : Net 51 W w.heap.size g (Off u E) v xs
  r : Net 49 W w.heap.size h (Off v E) u ys
  e : ∀ k, E k → k < W.heap.size
section
variable {w W W' : World} {g h : Nat} {E E' : Nat → Prop} {xs ys zs : List S32} {v u : Value}
theorem Two.freshN (t : Two w W g h E xs ys v u) : ∀ k, W.heap.size ≤ k → Off u E k := fun k hk => by
  refine ⟨fun he => ?_, fun he => ?_⟩
  · have := (t.r.row.own k he.symm).2.2.1; omega
  · have := t.e k he; omega
theorem Two.freshR (t : Two w W g h E xs ys v u) : ∀ k, W.heap.size ≤ k → Off v E k := fun k hk => by
  refine ⟨fun he => ?_, fun he => ?_⟩
  · have := (t.n.row.own k he.symm).2.2.1; omega
  · have := t.e k he; omega
theorem Net.not_foot {t t' : Nat} {base base' : Nat} {ok ok' : Nat → Prop} (hn : Net t W base g ok v xs) (hr : Net t' W base' h ok' u ys) (htt : t ≠ t') : ¬ Foot g v h := by
  have := hn.foot hr.box (by rcases hr.ty with e | e <;> rw [e] <;> decide) (fun e => htt e.symm)
  exact this
/-- A net's call, seen from the other net. -/
theorem Net.beside {t t' : Nat} {base : Nat} {ok : Nat → Prop} {v1 : Value} (hn : Net t W base g ok v xs) (hr : Net t' W base h (Off v E) u ys) (htt : t ≠ t') (hk : Kept W W' (Foot g v)) (hv : v1.ownBlock = v.ownBlock ∨ ∃ b, v1.ownBlock = some b ∧ W.heap.size ≤ b) : Net t' W' base h (Off v1 E) u ys := by
  have h1 := hr.bound.kept hk (hn.not_foot hr htt) (fun k hk1 => by
    rintro (rfl | hk2)
    · obtain ⟨_, _, _, q, hq, cells, hc⟩ := hk1
      have hb := hn.box
      rw [hc] at hb
      injection hb with hb
      injection hb with _ hb
      rcases hn.ty with e | e <;> rw [e] at hb <;> rcases hq with e2 | e2 <;> rw [e2] at hb <;> cases hb
    · exact hk1.1.1 hk2.symm)
  refine h1.mono (fun k hk1 => ⟨fun he => ?_, hk1.1.2⟩)
  rcases hv with hv | ⟨b, hb, hle⟩
  · rw [hv] at he; exact hk1.1.1 he
  · rw [hb] at he
    injection he with he
    have := hk1.2.2.1
    omega
theorem Two.stepN (t : Two w W g h E xs ys v u) (hp : NPost 51 W W' w.heap.size g (Off u E) v zs) : ∃ v1, Two w W' g h E zs ys v1 u := by
  obtain ⟨v1, h1, h2, h3, h4⟩ := hp
  exact ⟨v1, t.below.trans h2, h1, t.n.beside t.r (by decide) h3 h4, fun k hk => Nat.lt_of_lt_of_le (t.e k hk) h3.1⟩
theorem Two.stepR (t : Two w W g h E xs ys v u) (hp : NPost 49 W W' w.heap.size h (Off v E) u zs) : ∃ u1, Two w W' g h E xs zs v u1 := by
  obtain ⟨v1, h1, h2, h3, h4⟩ := hp
  exact ⟨v1, t.below.trans h2, t.r.beside t.n (by decide) h3 h4, h1, fun k hk => Nat.lt_of_lt_of_le (t.e k hk) h3.1⟩
/-- New memory; some of it is put aside. -/
theorem Two.wide (t : Two w W g h E xs ys v u) (hb : Below W.heap.size W W') (hE : ∀ k, E' k → (E k ∨ W.heap.size ≤ k) ∧ k < W'.heap.size) : Two w W' g h E' xs ys v u := by
  refine ⟨below_step t.below hb, (t.n.bound.mono (fun k hk => ⟨hk.1.1, fun he => ?_⟩)).below hb, (t.r.bound.mono (fun k hk => ⟨hk.1.1, fun he => ?_⟩)).below hb, fun k hk => (hE k hk).2⟩
  · rcases (hE k he).1 with h1 | h1
    · exact hk.1.2 h1
    · have := hk.2.2.1; omega
  · rcases (hE k he).1 with h1 | h1
    · exact hk.1.2 h1
    · have := hk.2.2.1; omega
theorem Two.narrow (t : Two w W g h E xs ys v u) (hE : ∀ k, E' k → E k) : Two w W g h E' xs ys v u := t.wide (Below.refl _ _) (fun k hk => ⟨.inl (hE k hk), t.e k (hE k hk)⟩)
/-- What is put aside is written. -/
theorem Two.aside (t : Two w W g h E xs ys v u) (hb : Below w.heap.size W W') (hk : Kept W W' E) (hg : ¬ E g) (hh : ¬ E h) : Two w W' g h E xs ys v u :=
  ⟨t.below.trans hb, t.n.kept hk hg (fun k hk1 => hk1.2), t.r.kept hk hh (fun k hk1 => hk1.2), fun k hk1 => Nat.lt_of_lt_of_le (t.e k hk1) hk.1⟩
/-- Cells of a packet that are put aside, and rows of bytes, over a call of either net. -/
theorem Two.blkN (t : Two w W g h E xs ys v u) (hp : NPost 51 W W' w.heap.size g (Off u E) v zs) {k : Nat} {cs : Array Value} (hb : W.heap[k]? = some (.cells cs 32 (0, 0))) (he : E k) : W'.heap[k]? = some (.cells cs 32 (0, 0)) := hp.blk_ t.n hb (fun ho => ho.2 he)
theorem Two.blkR (t : Two w W g h E xs ys v u) (hp : NPost 49 W W' w.heap.size h (Off v E) u zs) {k : Nat} {cs : Array Value} (hb : W.heap[k]? = some (.cells cs 32 (0, 0))) (he : E k) : W'.heap[k]? = some (.cells cs 32 (0, 0)) := hp.blk_ t.r hb (fun ho => ho.2 he)
/-- .. and cells of any other type. -/
theorem NPost.other_ {t q : Nat} {base : Nat} {ok : Nat → Prop} (hp : NPost t W W' base g ok v zs) (hN : Net t W base g ok v xs) {k : Nat} {cs : Array Value} (hb : W.heap[k]? = some (.cells cs q (0, 0))) (h1 : q ≠ 32) (h2 : q ≠ t) : W'.heap[k]? = some (.cells cs q (0, 0)) :=
  blk_kept hb hp.kept_ (hN.foot hb h1 h2)
end
end Go.Proofs.Ytgknafhpfghbjaa.X
