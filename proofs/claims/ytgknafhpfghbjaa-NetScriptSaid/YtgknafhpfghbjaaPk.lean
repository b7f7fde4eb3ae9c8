/- Nets in memory: a block that holds the head of a row of packets; the row may be one's own or a clipped one. -/
import Derived.Test.YtgknafhpfghbjaaBx1
import Derived.WalkSpells
namespace Go.Proofs.Ytgknafhpfghbjaa.X
open Go.RowKit Go.Proofs.Ytgknafhpfghbjaa.B Go.Proofs.Ytgknafhpfghbjaa Go.Proofs.YtgknafhpfghbjaaW.PrintWords Go.Proofs.YtgknafhpfghbjaaW.PrintLast Go.Proofs.YtgknafhpfghbjaaW.PrintMore

theorem info32 : (Try.prog.info? 32).map (fun i => (i.zero, i.size, i.bytes)) = some (some (.agg #[.int .i64 0, .int .i64 0, .slice none 0 0]), 3, 40) := by kernel_rfl
/-- A row of packets: one's own, or a cut of one's own that has no room behind it. -/
def PRow (w : World) (base : Nat) (ok : Nat → Prop) (v : Value) (xs : List S32) : Prop :=
  ∃ A c c0, v = .slice A xs.length c ∧ (c = c0 ∨ c = xs.length) ∧ xs.length ≤ c ∧ k32.R 32 w base ok (.slice A xs.length c0) xs
theorem ob_cap (A : Option Addr) (n m c c0 : Nat) : (Value.slice A n c).ownBlock = (Value.slice A m c0).ownBlock := by cases A <;> rfl
theorem prow_of_R {w : World} {base : Nat} {ok : Nat → Prop} {v : Value} {xs : List S32} (h : k32.R 32 w base ok v xs) : PRow w base ok v xs := by
  obtain ⟨A, c, rfl, hle, _⟩ := Kd.R_reads h
  exact ⟨A, c, c, rfl, .inl rfl, hle, h⟩
theorem PRow.nil (w : World) (base : Nat) (ok : Nat → Prop) : PRow w base ok (.slice none 0 0) [] := prow_of_R (Kd.R_nil _ _ _ _ _)
section
variable {w w1 : World} {base : Nat} {ok ok' : Nat → Prop} {v : Value} {xs : List S32}
theorem PRow.mono (h : PRow w base ok v xs) (hok : ∀ k, ok k → ok' k) : PRow w base ok' v xs := by
  obtain ⟨A, c, c0, e, hc, hl, hr⟩ := h
  exact ⟨A, c, c0, e, hc, hl, Kd.R_mono hr hok⟩
theorem PRow.bound (h : PRow w base ok v xs) : PRow w base (fun k => ok k ∧ base ≤ k ∧ k < w.heap.size ∧ ∃ q, (q = 32 ∨ q = 5) ∧ ∃ cells, w.heap[k]? = some (.cells cells q (0, 0))) v xs := by
  obtain ⟨A, c, c0, e, hc, hl, hr⟩ := h
  refine ⟨A, c, c0, e, hc, hl, Kd.R_mono (Kd.R_bound hr) ?_⟩
  rintro k ⟨h1, h2, h3, q, hq, hcc⟩
  refine ⟨h1, h2, h3, q, ?_, hcc⟩
  have : q ∈ [32, 5] := hq
  simpa using this
theorem PRow.step (h : PRow w base ok v xs) (hm : ∀ k, ok k → k < w.heap.size → w1.heap[k]? = w.heap[k]?) : PRow w1 base ok v xs := by
  obtain ⟨A, c, c0, e, hc, hl, hr⟩ := h
  exact ⟨A, c, c0, e, hc, hl, Kd.R_step hr hm⟩
theorem PRow.own (h : PRow w base ok v xs) (k : Nat) (hk : v.ownBlock = some k) : ok k ∧ base ≤ k ∧ k < w.heap.size ∧ ∃ cells, w.heap[k]? = some (.cells cells 32 (0, 0)) := by
  obtain ⟨A, c, c0, rfl, hc, hl, hr⟩ := h
  rw [ob_cap A xs.length xs.length c c0] at hk
  obtain ⟨h0, inner, ho, hrr⟩ := hr
  exact ⟨h0 k hk, own_base ho k hk, own_lt ho k hk, own_typed ho k hk⟩
theorem PRow.reads (h : PRow w base ok v xs) : ∃ A c, v = .slice A xs.length c ∧ xs.length ≤ c ∧ k32.C w A xs.length xs := by
  obtain ⟨A, c, c0, rfl, hc, hl, hr⟩ := h
  obtain ⟨A', c', he, _, hC⟩ := Kd.R_reads hr
  injection he with he1 he2 he3
  subst he1
  exact ⟨A, c, rfl, hl, hC⟩
end
/-- append(v, x) of one packet: the run. -/
theorem prow_append_run {W : World} (base : Nat) (ok okp : Nat → Prop) (v : Value) (xs : List S32) (p : S32) (cs : List Value) (ty : TypeId) (hp : k32.M W base okp p cs) (hokp : ∀ k, okp k → ok k ∧ some k ≠ v.ownBlock) (hfresh : ∀ k, W.heap.size ≤ k → ok k)
    (HO : PRow W base ok v xs) (hbase : base ≤ W.heap.size) (hl : xs.length ≤ 1000) :
    ∃ v1 w1, (Builtin.append_ #[47, 47] ty #[v, .slice (some ⟨W.heap.size, 0, none⟩) 1 1]).run Try.prog (W.alloc (.cells cs.toArray 32)) = .ok v1 w1 ∧ k32.R 32 w1 base ok v1 (xs ++ [p]) ∧ W.grownBy w1 v.ownBlock ∧ (v1.ownBlock = v.ownBlock ∨ ∃ b, v1.ownBlock = some b ∧ W.heap.size ≤ b) := by
  obtain ⟨i0, hi, hzz⟩ := Option.map_eq_some_iff.1 info32
  simp only [Prod.mk.injEq] at hzz
  obtain ⟨hz0, hz1, hz2⟩ := hzz
  obtain ⟨A, c, c0, rfl, hc, hle, hr⟩ := HO
  have hob := ob_cap A xs.length xs.length c c0
  obtain ⟨h0, inner, hown, hrr⟩ := hr
  have hK := k32.K_of_M hp
  have hcl : cs.length = 3 := k32.K_len hK
  have hone := k32.K_one hK
  have hnews : ∀ j u, cs[j]? = some u → (W.alloc (.cells cs.toArray 32)).cell? ((⟨W.heap.size, 0, none⟩ : Addr).add j) = some u := by
    simpa using World.news_of_block (cs := cs.toArray) (t := 32) (fr := (0, 0)) (heap_alloc_new W (.cells cs.toArray 32))
  have fin : ∀ v1 w1, w1.ownsRow base 32 3 v1 (xs.length + 1) (inner ++ cs) → W.grownBy w1 (Value.slice A xs.length c).ownBlock → (v1.ownBlock = (Value.slice A xs.length c).ownBlock ∨ ∃ b, v1.ownBlock = some b ∧ W.heap.size ≤ b) → k32.R 32 w1 base ok v1 (xs ++ [p]) := by
    intro v1 w1 ho hg hat
    refine Kd.R_appended (d := k32) (v := .slice A xs.length c) (okp := okp) (fun k hk => h0 k (by rw [← hob]; exact hk)) ?_ hp hokp hfresh ho hg hat
    rw [hob]
    exact hrr
  rcases hc with rfl | rfl
  · obtain ⟨v1, w1, hrun, h2, hg, _, hat⟩ := run_append_own_at (P := Try.prog) (W.alloc (.cells cs.toArray 32)) base 47 ty 32 i0 _ 3 40 Try.underlying47 hi hz0 hz1 hz2 rfl (by decide) _ xs.length inner (hown.alloc _) ⟨W.heap.size, 0, none⟩ 1 1 cs (by rw [hcl]) hnews hone (by simp only [maxLen]; omega) (by omega) (by simp; omega)
    have hg' := World.grownBy.trans (World.grownBy_alloc W (.cells cs.toArray 32) _) hg
    have hat' : v1.ownBlock = (Value.slice A xs.length c).ownBlock ∨ ∃ b, v1.ownBlock = some b ∧ W.heap.size ≤ b := by
      rcases hat with hat | hat
      · exact .inl hat
      · exact .inr ⟨_, hat, by simp⟩
    exact ⟨v1, w1, hrun, fin v1 w1 h2 hg' hat', hg', hat'⟩
  · cases A with
    | none =>
      have hx : xs.length = 0 ∧ c0 = 0 := by
        rcases hown.2 with ⟨he, _⟩ | ⟨g, cap, cur, he, _⟩
        · injection he with _ h1 h2
          exact ⟨h1, h2⟩
        · injection he with h1; cases h1
      obtain ⟨hx0, rfl⟩ := hx
      obtain rfl : xs = [] := List.eq_nil_of_length_eq_zero hx0
      obtain ⟨v1, w1, hrun, h2, hg, _, hat⟩ := run_append_own_at (P := Try.prog) (W.alloc (.cells cs.toArray 32)) base 47 ty 32 i0 _ 3 40 Try.underlying47 hi hz0 hz1 hz2 rfl (by decide) _ 0 inner (hown.alloc _) ⟨W.heap.size, 0, none⟩ 1 1 cs (by rw [hcl]) hnews hone (by simp only [maxLen]; omega) (by omega) (by simp; omega)
      have hg' := World.grownBy.trans (World.grownBy_alloc W (.cells cs.toArray 32) _) hg
      have hat' : v1.ownBlock = (Value.slice none ([] : List S32).length 0).ownBlock ∨ ∃ b, v1.ownBlock = some b ∧ W.heap.size ≤ b := by
        rcases hat with hat | hat
        · exact .inl hat
        · exact .inr ⟨_, hat, by simp⟩
      exact ⟨v1, w1, hrun, fin v1 w1 h2 hg' hat', hg', hat'⟩
    | some ad =>
      have hA : ad = ⟨ad.block, 0, none⟩ := by
        rcases hown.2 with ⟨he, _⟩ | ⟨g, cap, cur, he, _⟩
        · injection he with h1; cases h1
        · injection he with h1; injection h1 with h1; rw [h1]
      have holds : ∀ j u, inner[j]? = some u → (W.alloc (.cells cs.toArray 32)).cell? (ad.add j) = some u := by
        intro j u hj
        have := (hown.alloc (.cells cs.toArray 32)).cells (g := ad.block) (by rfl) j u hj
        rw [← hA] at this
        exact this
      obtain ⟨v1, w1, hrun, h2, hg⟩ := run_append_arg_grows (P := Try.prog) (W.alloc (.cells cs.toArray 32)) 47 ty 32 i0 _ 3 40 Try.underlying47 hi hz0 hz1 hz2 rfl (by decide) ad xs.length xs.length inner hown.1 holds ⟨W.heap.size, 0, none⟩ 1 1 cs (by rw [hcl]) hnews (by omega) (by simp only [maxLen]; omega) (by omega)
      have hg' : W.grownBy w1 (Value.slice (some ad) xs.length xs.length).ownBlock := by
        have h3 := World.grownBy.trans (World.grownBy_alloc W (.cells cs.toArray 32) none) hg
        exact ⟨h3.os, h3.tape, h3.output, h3.size, fun k hk _ => h3.block k hk (by simp)⟩
      have hat' : v1.ownBlock = (Value.slice (some ad) xs.length xs.length).ownBlock ∨ ∃ b, v1.ownBlock = some b ∧ W.heap.size ≤ b := by
        obtain ⟨g1, cap1, rfl, hb1, _⟩ := h2.form (by omega)
        refine .inr ⟨g1, rfl, ?_⟩
        simp at hb1
        omega
      exact ⟨v1, w1, hrun, fin v1 w1 (own_weaken h2 (by simp; omega)) hg' hat', hg', hat'⟩
section
variable {P : Program} {ops : Array Oper} {o : Oper} {a : Act} {Q : Exit → Act → World → Prop} {Kc : Act → World → Prop}
theorem step_of_run {W w1 : World} (hw : Region.wanted o (yielded ops a.tmps) = true) (s x : Operand) (t : TypeId) (ho : o.op = .call { callee := .builtin .append, args := #[s, x], argTypes := #[t, t] })
    {v y v1 : Value} (hs : a.eval s = v) (hx : a.eval x = y) (hr : (Builtin.append_ #[t, t] o.type #[v, y]).run P W = .ok v1 w1) (h : Kc (a.put o.dst v1) w1) :
    if Region.wanted o (yielded ops a.tmps) = true then Oper.wp P o a W Kc Q else Kc (a.put o.dst undef) W := by
  rw [if_pos hw]
  unfold Oper.wp execOp
  simp only [ho, resolve, invoke, builtin, Sem.run_bind, Sem.run_pure, Result.andThen_ok, List.map_toArray, List.map_cons, List.map_nil, hs, hx, hr]
  exact h
theorem list_of_run {rest : List Oper} {W w1 : World} (hgd : o.guard = none) (s x : Operand) (t : TypeId) (ho : o.op = .call { callee := .builtin .append, args := #[s, x], argTypes := #[t, t] })
    {v y v1 : Value} (hs : a.eval s = v) (hx : a.eval x = y) (hr : (Builtin.append_ #[t, t] o.type #[v, y]).run P W = .ok v1 w1) (h : wpList P ops Q rest (a.put o.dst v1) w1) : wpList P ops Q (o :: rest) a W := by
  refine wpList_plain hgd fun K hK => ?_
  unfold Oper.wp execOp
  simp only [ho, resolve, invoke, builtin, Sem.run_bind, Sem.run_pure, Result.andThen_ok, List.map_toArray, List.map_cons, List.map_nil, hs, hx, hr]
  exact hK _ _ h
end
/-- A net: block g (type t) holds the head of a row of packets. -/
structure Net (t : Nat) (w : World) (base g : Nat) (ok : Nat → Prop) (v : Value) (xs : List S32) : Prop where
  box : w.heap[g]? = some (.cells #[v] t (0, 0))
  row : PRow w base ok v xs
  ge : base ≤ g
  ty : t = 51 ∨ t = 49
  le : xs.length ≤ 256
  small : ∀ x ∈ xs, x.f2.length ≤ 32768
/-- What a net's call may write. -/
def Foot (g : Nat) (v : Value) : Nat → Prop := fun k => k = g ∨ v.ownBlock = some k
section
variable {t : Nat} {w w1 : World} {base g : Nat} {ok ok' : Nat → Prop} {v : Value} {xs : List S32}
theorem Net.cell (h : Net t w base g ok v xs) : w.cell? ⟨g, 0, none⟩ = some v := (blk_cell h.box 0).trans rfl
theorem Net.free (h : Net t w base g ok v xs) : w.frozen? ⟨g, 0, none⟩ = false := blk_frozen h.box 0
theorem Net.lt (h : Net t w base g ok v xs) : g < w.heap.size := blk_lt h.box
theorem Net.mono (h : Net t w base g ok v xs) (hok : ∀ k, ok k → ok' k) : Net t w base g ok' v xs := ⟨h.box, h.row.mono hok, h.ge, h.ty, h.le, h.small⟩
theorem Net.bound (h : Net t w base g ok v xs) : Net t w base g (fun k => ok k ∧ base ≤ k ∧ k < w.heap.size ∧ ∃ q, (q = 32 ∨ q = 5) ∧ ∃ cells, w.heap[k]? = some (.cells cells q (0, 0))) v xs := ⟨h.box, h.row.bound, h.ge, h.ty, h.le, h.small⟩
theorem Net.step (h : Net t w base g ok v xs) (hg : w1.heap[g]? = w.heap[g]?) (hm : ∀ k, ok k → k < w.heap.size → w1.heap[k]? = w.heap[k]?) : Net t w1 base g ok v xs := ⟨hg.trans h.box, h.row.step hm, h.ge, h.ty, h.le, h.small⟩
theorem Net.below (h : Net t w base g ok v xs) (hb : Below w.heap.size w w1) : Net t w1 base g ok v xs := h.step (hb.block g h.lt) (fun k _ hk => hb.block k hk)
theorem Net.alloc (h : Net t w base g ok v xs) (o : Obj) : Net t (w.alloc o) base g ok v xs := h.below (below_alloc (Below.refl _ _) o)
/-- What is written is not the net's. -/
theorem Net.kept {S : Nat → Prop} (h : Net t w base g ok v xs) (hk : Kept w w1 S) (hg : ¬ S g) (hs : ∀ k, ok k → ¬ S k) : Net t w1 base g ok v xs := h.step (hk.2 g h.lt hg) (fun k ho hlt => hk.2 k hlt (hs k ho))
/-- Rows of bytes, and whatever has other types, live on over a net's call. -/
theorem Net.foot (h : Net t w base g ok v xs) {k q : Nat} {cells : Array Value} (hb : w.heap[k]? = some (.cells cells q (0, 0))) (hq : q ≠ 32) (hq1 : q ≠ t) : ¬ Foot g v k := by
  rintro (rfl | hk)
  · rw [h.box] at hb
    injection hb with hb
    injection hb with _ hb
    exact hq1 hb.symm
  · obtain ⟨_, _, _, cells', hc⟩ := h.row.own k hk
    rw [hc] at hb
    injection hb with hb
    injection hb with _ hb
    exact hq hb.symm
theorem Net.keepR (h : Net t w base g ok v xs) (hk : Kept w w1 (Foot g v)) {b : Nat} {okb : Nat → Prop} {u : Value} {ys : List Int} (hr : (Kd.int .u8).R 5 w b okb u ys) : (Kd.int .u8).R 5 w1 b okb u ys := by
  refine Kd.R_mono (Kd.R_step (Kd.R_bound hr) (fun k hk1 hlt => hk.2 k hlt ?_)) (fun k hk1 => hk1.1)
  obtain ⟨_, _, _, q, hq, cells, hc⟩ := hk1
  have hq5 : q = 5 := by
    have : q ∈ [5] := hq
    simpa using this
  subst hq5
  exact h.foot hc (by decide) (by rcases h.ty with e | e <;> rw [e] <;> decide)
/-- An element's packet. -/
theorem Net.at_ (h : Net t w base g ok v xs) (i : Int) (h0 : 0 ≤ i) (h1 : i < xs.length) : ∃ ad c u, v = .slice (some ad) xs.length c ∧ w.cell? (ad.add (i.toNat * 3)) = some (.int .i64 (rd_T32 xs i).f0) ∧ w.cell? ⟨(ad.add (i.toNat * 3)).block, (ad.add (i.toNat * 3)).off + 1, none⟩ = some (.int .i64 (rd_T32 xs i).f1) ∧ w.cell? ⟨(ad.add (i.toNat * 3)).block, (ad.add (i.toNat * 3)).off + 2, none⟩ = some u ∧ (Kd.int .u8).R 5 w base ok u (rd_T32 xs i).f2 := by
  obtain ⟨A, c, c0, rfl, hc, hle, hr⟩ := h.row
  obtain ⟨h0', inner, hown, hrr⟩ := hr
  have hi : i.toNat < xs.length := by omega
  have hx := hrr.2 i.toNat _ (List.getElem?_eq_getElem hi)
  have hd : xs[i.toNat] = rd_T32 xs i := by simp [rd_T32, List.getD_eq_getElem?_getD, List.getElem?_eq_getElem hi]
  rw [hd] at hx
  obtain ⟨u, hcs, hu⟩ := k32_openM hx
  obtain ⟨gg, cap, he, _, _⟩ := hown.form (by omega)
  injection he with he1 he2 he3
  subst he1
  refine ⟨⟨gg, 0, none⟩, c, u, rfl, ?_⟩
  have hcell : ∀ j y, ([.int .i64 (rd_T32 xs i).f0, .int .i64 (rd_T32 xs i).f1, u] : List Value)[j]? = some y → w.cell? ((⟨gg, 0, none⟩ : Addr).add (i.toNat * 3 + j)) = some y := by
    intro j y hj
    rw [← hcs] at hj
    have hj3 : j < 3 := by
      rcases Nat.lt_or_ge j 3 with h | h
      · exact h
      · rw [List.getElem?_eq_none (by rw [List.length_take]; show min 3 _ ≤ j; omega)] at hj; cases hj
    refine hown.cells (g := gg) rfl _ _ ?_
    rw [List.getElem?_take, if_pos (show j < k32.sz from hj3), List.getElem?_drop] at hj
    exact hj
  exact ⟨hcell 0 _ rfl, by rw [← add_field _ _ 1 (by omega)]; exact hcell 1 _ rfl, by rw [← add_field _ _ 2 (by omega)]; exact hcell 2 _ rfl, Kd.R_mono hu (fun k hk => hk.1)⟩
end
end Go.Proofs.Ytgknafhpfghbjaa.X
