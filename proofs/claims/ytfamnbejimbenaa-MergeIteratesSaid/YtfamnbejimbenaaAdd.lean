/- The heads' Push, walked. -/
import Derived.Test.YtfamnbejimbenaaHs
import Derived.Deep.RegionLaw
set_option linter.unusedVariables false
set_option linter.unusedSimpArgs false
namespace Go.Proofs.Ytfamnbejimbenaa.X
open Go.RowKit Go.Sort Go.Proofs.Ytfamnbejimbenaa.G Go.Proofs.YtfamnbejimbenaaW.PrintWords Go.Proofs.YtfamnbejimbenaaW.PrintLast Go.Proofs.YtfamnbejimbenaaW.PrintMore
theorem i29 : (Try.prog.info? 29).map (fun i => (i.zero, i.size, i.bytes)) = some (some (.slice none 0 0), 1, 24) := by kernel_rfl
theorem und45 : Try.prog.underlying 45 = some (.slice 29) := by kernel_rfl
theorem heads_append_run {W : World} {B M g : Nat} {ls : List (List S24)} {v : Value} {us : List Value} (h : Hs W B M g ls v us) (hB : B ≤ W.heap.size) (hl : ls.length ≤ 1000000) (A : Option Addr) (n c : Nat) (ty : TypeId) :
    ∃ v1 w1, (Builtin.append_ #[45, 45] ty #[v, .slice (some ⟨W.heap.size, 0, none⟩) 1 1]).run Try.prog (W.alloc (.cells #[.slice A n c] 29)) = .ok v1 w1 ∧ w1.ownsRow B 29 1 v1 (ls.length + 1) (us ++ [.slice A n c]) ∧ W.grownBy w1 v.ownBlock ∧ ∃ k c', v1 = .slice (some ⟨k, 0, none⟩) (ls.length + 1) c' := by
  obtain ⟨i0, hi, hzz⟩ := Option.map_eq_some_iff.1 i29
  simp only [Prod.mk.injEq] at hzz
  obtain ⟨hz0, hz1, hz2⟩ := hzz
  have hnews : ∀ (j : Nat) (u : Value), [Value.slice A n c][j]? = some u → (W.alloc (.cells #[.slice A n c] 29)).cell? ((⟨W.heap.size, 0, none⟩ : Addr).add j) = some u := by
    simpa using World.news_of_block (cs := #[Value.slice A n c]) (t := 29) (fr := (0, 0)) (heap_alloc_new W (.cells #[.slice A n c] 29))
  obtain ⟨v1, w1, hrun, h2, hg, _, hat⟩ := run_append_own_at (P := Try.prog) (W.alloc (.cells #[.slice A n c] 29)) B 45 ty 29 i0 _ 1 24 und45 hi hz0 hz1 hz2 rfl (by decide) v ls.length us (h.own.alloc _) ⟨W.heap.size, 0, none⟩ 1 1 [.slice A n c] rfl hnews (by simp [Value.oneCell']) (by simp only [maxLen]; omega) (by omega) (by simp; omega)
  refine ⟨v1, w1, hrun, h2, World.grownBy.trans (World.grownBy_alloc W (.cells #[.slice A n c] 29) _) hg, ?_⟩
  rcases h2.2 with ⟨_, h0⟩ | ⟨k, cap, cur, e1, _⟩
  · omega
  · exact ⟨k, cap, e1⟩
theorem heads_append_run' {W : World} {B M g : Nat} {ls : List (List S24)} {v : Value} {us : List Value} (h : Hs W B M g ls v us) (hB : B ≤ W.heap.size) (hl : ls.length ≤ 1000000) (A : Option Addr) (n c : Nat) (ty : TypeId) :
    ∃ v1 w1, (Builtin.append_ #[45, 45] ty #[v, .slice (some ⟨W.heap.size, 0, none⟩) 1 1]).run Try.prog (W.alloc (.cells #[.slice A n c] 29)).drew = .ok v1 w1 ∧ w1.ownsRow B 29 1 v1 (ls.length + 1) (us ++ [.slice A n c]) ∧ W.grownBy w1 v.ownBlock ∧ ∃ k c', v1 = .slice (some ⟨k, 0, none⟩) (ls.length + 1) c' := by
  obtain ⟨v1, w1, a1, a2, a3, a4⟩ := heads_append_run (W := W.drew) (h.below (below_drew (Below.refl _ _)) hB) hB hl A n c ty
  exact ⟨v1, w1, a1, a2, ⟨a3.os, a3.tape, a3.output, a3.size, a3.block⟩, a4⟩
/-- The own block of the heads is no box and no block of points. -/
theorem Hs.notown {w : World} {B M g : Nat} {ls : List (List S24)} {v : Value} {us : List Value} (h : Hs w B M g ls v us) {k : Nat} {cs : Array Value} {t : TypeId} {fr : Nat × Nat} (hk : w.heap[k]? = some (Obj.cells cs t fr)) (ht : t ≠ 29) : some k ≠ v.ownBlock := by
  intro e
  rcases h.own.2 with ⟨he, _⟩ | ⟨k1, cap, cur, he, _, h1, _⟩
  · rw [he] at e; cases e
  · rw [he] at e
    injection e with e
    have e : k = k1 := e
    rw [e, h1] at hk
    injection hk with hk
    injection hk with _ h2
    exact ht h2.symm
theorem Hs.ownge {w : World} {B M g : Nat} {ls : List (List S24)} {v : Value} {us : List Value} (h : Hs w B M g ls v us) {k : Nat} (hk : some k = v.ownBlock) : B ≤ k := by
  rcases h.own.2 with ⟨he, _⟩ | ⟨k1, cap, cur, he, hb, _⟩
  · rw [he] at hk; cases hk
  · rw [he] at hk
    injection hk with hk
    have e : k = k1 := hk
    omega
theorem Hs.grew {W w1 : World} {B M g : Nat} {ls : List (List S24)} {v : Value} {us : List Value} (h : Hs W B M g ls v us) (hB : B ≤ W.heap.size) (hg : W.grownBy w1 v.ownBlock) : Step B W w1 ∧ w1.heap[g]? = some (Obj.cells #[v] 47 (0, 0)) := by
  refine ⟨⟨⟨hg.os, hg.tape, hg.output, hg.size, fun k hk => hg.block k (by omega) (fun e => by have := h.ownge e; omega)⟩, fun b cs fr hb => hg.block b (Array.getElem?_eq_some_iff.1 hb).1 (h.notown hb (by decide))⟩, ?_⟩
  exact (hg.block g (Array.getElem?_eq_some_iff.1 h.box).1 (h.notown h.box (by decide))).trans h.box
theorem Hs.pushed {W w1 : World} {B M g : Nat} {ls : List (List S24)} {v v1 u : Value} {us : List Value} {x : List S24} (h : Hs W B M g ls v us) (hB : B ≤ W.heap.size) (hg : W.grownBy w1 v.ownBlock) (ho : w1.ownsRow B 29 1 v1 (ls.length + 1) (us ++ [u])) (hu : Hv W B M u x) (hx : x ≠ []) :
    Hs (w1.setCell ⟨g, 0, none⟩ v1) B M g (ls ++ [x]) v1 (us ++ [u]) ∧ Step B W (w1.setCell ⟨g, 0, none⟩ v1) := by
  obtain ⟨hst, hbox⟩ := h.grew hB hg
  have hgB := h.gB
  have hoth : ∀ m, m ≠ g → (w1.setCell ⟨g, 0, none⟩ v1).heap[m]? = w1.heap[m]? := fun m hm => heap_setCell_other _ ⟨g, 0, none⟩ m _ hm
  have hst2 : Step B W (w1.setCell ⟨g, 0, none⟩ v1) := by
    refine hst.trans ⟨⟨rfl, rfl, rfl, by simp, fun m hm => hoth m (by omega)⟩, fun b cs fr hb => hoth b (fun e => ?_)⟩
    rw [e, hbox] at hb
    injection hb with hb
    injection hb with _ h2
    cases h2
  have hlen := h.len
  refine ⟨⟨h.gB, heap_setCell_same w1 g 0 _ 47 v1 hbox, ?_, fun i y hi => ?_, fun z hz => ?_⟩, hst2⟩
  · rw [List.length_append, List.length_singleton]
    obtain ⟨o1, o2⟩ := ho
    refine ⟨o1, ?_⟩
    rcases o2 with o2 | ⟨k, cap, cur, e1, e2, e3, e4⟩
    · exact .inl o2
    · refine .inr ⟨k, cap, cur, e1, e2, (hoth k (fun e => ?_)).trans e3, e4⟩
      rw [e, hbox] at e3
      injection e3 with e3
      injection e3 with _ h2
      cases h2
  · by_cases hil : i < ls.length
    · rw [List.getElem?_append_left hil] at hi
      obtain ⟨u', a1, a2⟩ := h.hv i y hi
      exact ⟨u', by rw [List.getElem?_append_left (by omega)]; exact a1, a2.step hst2⟩
    · rw [List.getElem?_append_right (by omega)] at hi
      have hi0 : i - ls.length = 0 := by
        have := (List.getElem?_eq_some_iff.1 hi).1
        simp at this; omega
      rw [hi0] at hi
      obtain rfl : x = y := by simpa using hi
      exact ⟨u, by rw [List.getElem?_append_right (by omega), hlen, hi0]; rfl, hu.step hst2⟩
  · rcases List.mem_append.1 hz with hz | hz
    · exact h.ne z hz
    · obtain rfl : z = x := by simpa using hz
      exact hx
section
variable {P : Program} {ops : Array Oper} {o : Oper} {a : Act} {Q : Exit → Act → World → Prop} {Kc : Act → World → Prop}
theorem step_of_run {W w1 : World} (hw : Region.wanted o (yielded ops a.tmps) = true) (s x : Operand) (t : TypeId) (ho : o.op = .call { callee := .builtin .append, args := #[s, x], argTypes := #[t, t] })
    {v y v1 : Value} (hs : a.eval s = v) (hx : a.eval x = y) (hr : (Builtin.append_ #[t, t] o.type #[v, y]).run P W = .ok v1 w1) (h : Kc (a.put o.dst v1) w1) :
    if Region.wanted o (yielded ops a.tmps) = true then Oper.wp P o a W Kc Q else Kc (a.put o.dst undef) W := by
  rw [if_pos hw]
  unfold Oper.wp execOp
  simp only [ho, resolve, invoke, builtin, Sem.run_bind, Sem.run_pure, Result.andThen_ok, List.map_toArray, List.map_cons, List.map_nil, hs, hx, hr]
  exact h
end
theorem ta29 (A : Option Addr) (n c : Nat) (W : World) : (Instr.typeAssert (.iface 29 (.slice A n c)) 20 29 false).run Try.prog W = .ok (.slice A n c) W := by kernel_rfl
set_option maxHeartbeats 1000000 in
theorem push74_calls {w : World} {B M g : Nat} {ls : List (List S24)} {v : Value} {us : List Value} (h : Hs w B M g ls v us) (hB : B ≤ w.heap.size) (hl : ls.length ≤ 1000000) (A : Option Addr) (n c : Nat) (x : List S24) (hu : Hv w B M (.slice A n c) x) (hx : x ≠ []) :
    Calls Try.prog 74 #[.pointer (some ⟨g, 0, none⟩), .iface 29 (.slice A n c)] w fun e w' => e = .returned (.tuple #[]) ∧ (∃ v' us', Hs w' B M g (ls ++ [x]) v' us') ∧ Step B w w' := by
  have hc : w.cell? ⟨g, 0, none⟩ = some v := by simp [World.cell?, h.box]
  have hgl : g < w.heap.size := (Array.getElem?_eq_some_iff.1 h.box).1
  obtain ⟨A0, c0, rfl⟩ : ∃ A0 c0, v = .slice A0 ls.length c0 := by
    rcases h.own.2 with ⟨he, h0⟩ | ⟨k, cap, cur, e1, _⟩
    · exact ⟨none, 0, by rw [he, h0]⟩
    · exact ⟨_, _, e1⟩
  have H := Aside0.mk h
  have HU := Aside0.mk hu
  clear h hu
  have hta := ta29 A n c
  go_enter Try.func74, Try.ntmps74
  go_wp2_with fail
  go_region_law (obtain ⟨v1, w1, hr, hR, hg, hat⟩ := heads_append_run' (W := w) H.out hB hl A n c 45; obtain ⟨k1, c1, rfl⟩ := hat; refine step_of_run (by rfl) (.tmp 7) (.tmp 10) 45 rfl rfl rfl hr ?_; have hbx := (H.out.grew hB hg).2; have hcell2 := (show w1.cell? ⟨g, 0, none⟩ = some (.slice A0 ls.length c0) by simp [World.cell?, hbx]); have hfree2 := frozen0 hbx 0; have HP := Aside0.mk (H.out.pushed hB hg hR HU.out hx); clear hr hR hg hbx)
  all_goals
    go_simp
    go_wp2
    go_end0
    exact ⟨rfl, ⟨_, _, HP.out.1⟩, HP.out.2⟩
end Go.Proofs.Ytfamnbejimbenaa.X
