/- Maps from int to int that the law makes, beside a net. -/
import Derived.Test.YtgknafhpfghbjaaDoubles
import Derived.Maps.OwnOps
import Derived.Maps.OwnSet
import Derived.Maps.Ext
set_option linter.unusedVariables false
set_option linter.unusedSimpArgs false
namespace Go.Proofs.Ytgknafhpfghbjaa.X
open Go.RowKit Go.Proofs.Ytgknafhpfghbjaa.B Go.Proofs.Ytgknafhpfghbjaa Go.Proofs.YtgknafhpfghbjaaW.PrintWords Go.Proofs.YtgknafhpfghbjaaW.PrintLast Go.Proofs.YtgknafhpfghbjaaW.PrintMore
open Go.Maps (Keyed)

theorem law3 : Keyed Try.prog 3 := Maps.int_keyed Try.underlying3
theorem zero3 (w : World) : (zeroValue 3).run Try.prog w = .ok (.int .i64 0) w := by kernel_rfl
abbrev wfi (q : Int) : Prop := (Lit.int .i64 q).wf = true
theorem wfi_of {q : Int} (h0 : -9223372036854775808 ≤ q) (h1 : q ≤ 9223372036854775807) : wfi q := WalkArith.wf_i64 ⟨h0, h1⟩
def upd (f : Int → Int) (q y : Int) : Int → Int := fun z => if z = q then y else f z
def upb (hs : Int → Bool) (q : Int) : Int → Bool := fun z => decide (z = q) || hs z
/-- Block b is a map of at most n entries, s in number; it has the keys hs; at q it says f q. -/
def IMap (w : World) (b n : Nat) (f : Int → Int) (hs : Int → Bool) (s : Nat) : Prop :=
  ∃ D : DataW Unit, w.ownsMap Try.prog 3 (plainElem Try.prog 3) b n D ∧ Maps.Tidy D ∧ Maps.size D = s ∧ (∀ q : Int, D.atKey (.int .i64 q) (.lit (.int .i64 0)) = .lit (.int .i64 (f q))) ∧ ∀ q : Int, Maps.has D (.int .i64 q) = hs q
section
variable {w w1 : World} {b n s : Nat} {f : Int → Int} {hs : Int → Bool}
theorem imap_new (w : World) : IMap (w.alloc (.map #[] 0)) w.heap.size 0 (fun _ => 0) (fun _ => false) 0 :=
  ⟨.map [], World.ownsMap_made _ _ _ _, Maps.tidy_empty, rfl, fun _ => rfl, fun _ => rfl⟩
theorem IMap.map_ (h : IMap w b n f hs s) : ∃ es clock, w.heap[b]? = some (.map es clock) := by
  obtain ⟨D, ⟨es, clock, hb, _⟩, _⟩ := h
  exact ⟨es, clock, hb⟩
theorem IMap.lt (h : IMap w b n f hs s) : b < w.heap.size := by obtain ⟨D, ho, _⟩ := h; exact ho.lt
theorem IMap.move (h : IMap w b n f hs s) (hm : w1.heap[b]? = w.heap[b]?) : IMap w1 b n f hs s := by
  obtain ⟨D, ⟨es, clock, hb, r⟩, r2⟩ := h
  exact ⟨D, ⟨es, clock, hm.trans hb, r⟩, r2⟩
theorem IMap.below (h : IMap w b n f hs s) (hb : Below w.heap.size w w1) : IMap w1 b n f hs s := h.move (hb.block b h.lt)
theorem IMap.net {t base g : Nat} {ok : Nat → Prop} {v : Value} {xs : List S32} (h : IMap w b n f hs s) (hN : Net t w base g ok v xs) (hk : Kept w w1 (Foot g v)) : IMap w1 b n f hs s := by
  refine h.move (hk.2 b h.lt ?_)
  obtain ⟨es, clock, hb⟩ := h.map_
  rintro (rfl | hv)
  · have := hN.box
    rw [hb] at this
    cases this
  · obtain ⟨_, _, _, cells, hc⟩ := hN.row.own b hv
    rw [hb] at hc
    cases hc
theorem IMap.look (h : IMap w b n f hs s) (q : Int) (hq : wfi q) : (Instr.lookup 29 (.map (some b)) (.int .i64 q) false).run Try.prog w = .ok (.int .i64 (f q)) w := by
  obtain ⟨D, ho, _, _, hf, _⟩ := h
  obtain ⟨c, hrun, hat, _⟩ := ho.lookup_int law3 Try.underlying29 Try.underlying3 (zero3 w) (Maps.keyOf_int_mk Try.underlying3 hq)
  rw [hf q] at hat
  have : f q = c := by injection hat with hat; injection hat
  rw [this]
  exact hrun
theorem IMap.len (h : IMap w b n f hs s) (ty : TypeId) : (Builtin.len_ #[29] ty #[.map (some b)]).run Try.prog w = .ok (.int .i64 s) w := by
  obtain ⟨D, ho, _, hsz, _⟩ := h
  rw [← hsz]
  exact ho.len Try.underlying29 ty
end
/-- What a store into a map leaves of all else. -/
theorem Net.stored {t : Nat} {w w1 : World} {base g b : Nat} {ok : Nat → Prop} {v : Value} {xs : List S32} {es : Array MapEntry} {clock : Nat} (h : Net t w base g ok v xs) (hb : w.heap[b]? = some (.map es clock)) (hg : w.grownBy w1 (some b)) : Net t w1 base g ok v xs := by
  refine (h.bound.step (hg.block g h.lt ?_) (fun k hk hlt => hg.block k hlt ?_)).mono (fun _ hk => hk.1)
  · intro he
    injection he with he
    subst he
    have := h.box
    rw [hb] at this
    cases this
  · intro he
    injection he with he
    subst he
    obtain ⟨_, _, _, q, _, cells, hc⟩ := hk
    rw [hb] at hc
    cases hc
theorem R5_stored {w w1 : World} {base b : Nat} {ok : Nat → Prop} {u : Value} {ys : List Int} {es : Array MapEntry} {clock : Nat} (h : (Kd.int .u8).R 5 w base ok u ys) (hb : w.heap[b]? = some (.map es clock)) (hg : w.grownBy w1 (some b)) : (Kd.int .u8).R 5 w1 base ok u ys := by
  refine Kd.R_mono (Kd.R_step (Kd.R_bound h) (fun k hk hlt => hg.block k hlt ?_)) (fun _ hk => hk.1)
  intro he
  injection he with he
  subst he
  obtain ⟨_, _, _, q, _, cells, hc⟩ := hk
  rw [hb] at hc
  cases hc
theorem cells_stored {w w1 : World} {b k : Nat} {t : TypeId} {cs : Array Value} {es : Array MapEntry} {clock : Nat} (h : w.heap[k]? = some (.cells cs t (0, 0))) (hb : w.heap[b]? = some (.map es clock)) (hg : w.grownBy w1 (some b)) : w1.heap[k]? = some (.cells cs t (0, 0)) := by
  refine blk_grown h hg ?_
  intro he
  injection he with he
  subst he
  rw [hb] at h
  cases h
section
variable {ops : Array Oper} {rest : List Oper} {o : Oper} {a : Act} {Q : Exit → Act → World → Prop}
/-- m[q] = y. -/
theorem imap_put {w : World} {b n s : Nat} {f : Int → Int} {hs : Int → Bool} (hg : o.guard = none) (m x v : Operand) (hop : o.op = Op.mapUpdate 29 m x v) (hm : a.eval m = .map (some b)) (h : IMap w b n f hs s) (hn : n ≤ 1000000) (q y : Int) (hx : a.eval x = .int .i64 q) (hv : a.eval v = .int .i64 y) (hq : wfi q) (hy : wfi y)
    (hK : ∀ w', IMap w' b (n + 1) (upd f q y) (upb hs q) (if hs q then s else s + 1) → w.grownBy w' (some b) → wpList Try.prog ops Q rest (a.put o.dst undef) w') : wpList Try.prog ops Q (o :: rest) a w := by
  obtain ⟨D, ho, ht, hsz, hf, hh⟩ := h
  have hkl : WideAt.IsKeyLit (Lit.int .i64 q) := by simp [WideAt.IsKeyLit]
  refine wpList_mapUpdate_own _ hg m x v 29 hop 3 3 law3 Try.underlying29 _ b n D hm ho (by unfold maxLen; omega) _ _ (.int .i64 q) hx hv (Maps.keyOf_int_mk Try.underlying3 hq) (.lit (.int .i64 y)) [] (plainElem_int Try.underlying3 hy) ?_
  intro w' ho' hg'
  refine hK w' ⟨_, ho', ht.put hkl _, ?_, fun z => ?_, fun z => ?_⟩ hg'
  · rw [Maps.size_put ht, hh q, hsz]
  · by_cases hz : z = q
    · subst hz
      rw [Maps.atKey_put_same ht.isMap hkl]
      simp [upd]
    · rw [Maps.atKey_put_other (by simpa using hz), hf z]
      simp [upd, hz]
  · by_cases hz : z = q
    · subst hz
      rw [Maps.has_put_same ht.isMap hkl]
      simp [upb]
    · rw [Maps.has_put_other (by simpa using hz), hh z]
      simp [upb, hz]
end
end Go.Proofs.Ytgknafhpfghbjaa.X
