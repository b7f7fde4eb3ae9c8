/- What the law's zeroing does to memory, and plain facts on what Next leaves. -/
import Derived.Test.YtfamnbejimbenaaNew
import Derived.Test.YtfamnbejimbenaaNext
set_option linter.unusedVariables false
set_option linter.unusedSimpArgs false
namespace Go.Proofs.Ytfamnbejimbenaa.X
open Go.RowKit Go.Sort Go.Proofs.Ytfamnbejimbenaa.G Go.Proofs.YtfamnbejimbenaaW.PrintWords Go.Proofs.YtfamnbejimbenaaW.PrintLast Go.Proofs.YtfamnbejimbenaaW.PrintMore
/-- Only blocks of points between base and B were written. -/
structure Zed (base B : Nat) (w3 wr : World) : Prop where
  below : Below base w3 wr
  hi : ∀ b, B ≤ b → wr.heap[b]? = w3.heap[b]?
  oth : ∀ (b : Nat) (cs : Array Value) (t : TypeId) (fr : Nat × Nat), t ≠ 24 → w3.heap[b]? = some (.cells cs t fr) → wr.heap[b]? = w3.heap[b]?
  pts : ∀ (b : Nat) (cs : Array Value), w3.heap[b]? = some (.cells cs 24 (0, 0)) → ∃ cs' : Array Value, cs'.size = cs.size ∧ wr.heap[b]? = some (.cells cs' 24 (0, 0))
theorem Zed.refl (base B : Nat) (w : World) : Zed base B w w := ⟨Below.refl _ _, fun _ _ => rfl, fun _ _ _ _ _ _ => rfl, fun b cs h => ⟨cs, rfl, h⟩⟩
theorem Zed.put1 {base B : Nat} {w3 wr : World} (h : Zed base B w3 wr) {g : Nat} (h0 : base ≤ g) (h1 : g < B) {cs : Array Value} (hg : w3.heap[g]? = some (.cells cs 24 (0, 0))) (j : Nat) (v : Value) : Zed base B w3 (wr.setCell ⟨g, j, none⟩ v) := by
  have ho : ∀ b, b ≠ g → (wr.setCell ⟨g, j, none⟩ v).heap[b]? = wr.heap[b]? := fun b hb => heap_setCell_other _ ⟨g, j, none⟩ b _ hb
  refine ⟨⟨h.below.os, h.below.tape, h.below.output, by have := h.below.size; simpa using this, fun k hk => (ho k (by omega)).trans (h.below.block k hk)⟩, fun b hb => (ho b (by omega)).trans (h.hi b hb), fun b cs' t fr ht hb => (ho b (fun e => ?_)).trans (h.oth b cs' t fr ht hb), fun b cs' hb => ?_⟩
  · rw [e, hg] at hb
    injection hb with hb
    injection hb with _ h2
    exact ht h2.symm
  · obtain ⟨c2, hs, hc⟩ := h.pts b cs' hb
    by_cases e : b = g
    · subst e
      exact ⟨_, by simpa using hs, heap_setCell_same wr b j c2 24 v hc⟩
    · exact ⟨c2, hs, (ho b e).trans hc⟩
theorem Zed.cell {base B : Nat} {w3 wr : World} (h : Zed base B w3 wr) {b : Nat} {cs : Array Value} {t : TypeId} {fr : Nat × Nat} (ht : t ≠ 24) (hb : w3.heap[b]? = some (.cells cs t fr)) (j : Nat) : wr.cell? ⟨b, j, none⟩ = w3.cell? ⟨b, j, none⟩ :=
  World.cell?_of_block (h.oth b cs t fr ht hb)
theorem Zed.free {base B : Nat} {w3 wr : World} (h : Zed base B w3 wr) {b : Nat} {cs : Array Value} (hb : w3.heap[b]? = some (.cells cs 24 (0, 0))) (j : Nat) : wr.frozen? ⟨b, j, none⟩ = false := by
  obtain ⟨c2, _, hc⟩ := h.pts b cs hb
  exact frozen0 hc j
theorem Zed.has {base B : Nat} {w3 wr : World} (h : Zed base B w3 wr) {b : Nat} {cs : Array Value} (hb : w3.heap[b]? = some (.cells cs 24 (0, 0))) (j : Nat) (hj : j < cs.size) : ∃ v, wr.cell? ⟨b, j, none⟩ = some v := by
  obtain ⟨c2, hs, hc⟩ := h.pts b cs hb
  exact ⟨c2[j]'(by omega), (cell_of_row wr b j c2 _ _ hc).trans (Array.getElem?_eq_getElem _)⟩
theorem Hs.hi {w w' : World} {B M g : Nat} {ls : List (List S24)} {v : Value} {us : List Value} (h : Hs w B M g ls v us) (ho : ∀ b, B ≤ b → w'.heap[b]? = w.heap[b]?) : Hs w' B M g ls v us := by
  refine ⟨h.gB, (ho g h.gB).trans h.box, ?_, fun i x hi => ?_, h.ne⟩
  · obtain ⟨h1, h2⟩ := h.own
    refine ⟨h1, ?_⟩
    rcases h2 with h2 | ⟨k, cap, cur, e1, e2, e3, e4⟩
    · exact .inl h2
    · exact .inr ⟨k, cap, cur, e1, e2, (ho k e2).trans e3, e4⟩
  · obtain ⟨u, h1, b, o, c, a1, a2, a3, ⟨cs', fr, a4⟩, a5⟩ := h.hv i x hi
    have hb := ho b a3.1
    refine ⟨u, h1, b, o, c, a1, a2, a3, ⟨cs', fr, hb.trans a4⟩, fun j q hq => ?_⟩
    obtain ⟨b1, b2, b3⟩ := a5 j q hq
    exact ⟨(World.cell?_of_block hb).trans b1, (World.cell?_of_block hb).trans b2, (World.cell?_of_block hb).trans b3⟩
/-- Row i of copies of one's own. -/
theorem inner_at {w2 : World} {base c : Nat} {A : Option Addr} {xs : List (List S24)} (h : Kd.S (Kd.slice 24 k24) 29 w2 base (fun _ => True) (.slice A xs.length c) xs) (i : Nat) (hi : i < xs.length) :
    ∃ (k : Nat) (ok : Array Value) (x : List S24) (A1 : Option Addr) (c1 : Nat), A = some ⟨k, 0, none⟩ ∧ w2.heap[k]? = some (.cells ok 29 (0, 0)) ∧ xs[i]? = some x ∧ w2.cell? ⟨k, i, none⟩ = some (.slice A1 x.length c1) ∧ x.length ≤ c1 ∧
      (x = [] ∨ ∃ g, A1 = some ⟨g, 0, none⟩ ∧ base ≤ g ∧ g < w2.heap.size ∧ Row w2 g c1 x) := by
  obtain ⟨k, cap, e, hb, hlt, cells, hk⟩ := Kd.S_form h (by omega)
  injection e with e1 e2 e3
  subst e1
  obtain ⟨cc, hcl, ⟨v, rfl, hR⟩, hc⟩ := Kd.S_get h ([] : List S24) (i : Int) (by omega) (by omega)
  have hcell := hc 0 v rfl
  have hsz : (Kd.slice 24 k24).sz = 1 := rfl
  rw [hsz, Nat.mul_one, Nat.add_zero, Int.toNat_natCast, add0] at hcell
  have hx : xs.getD (i : Int).toNat [] = xs[i] := by simp [hi]
  rw [hx] at hR
  rcases row_of_R hR with ⟨rfl, e⟩ | ⟨g, c1, rfl, hg, hr⟩
  · exact ⟨k, cells, xs[i], none, 0, rfl, hk, List.getElem?_eq_getElem hi, by rw [e]; exact hcell, by rw [e]; exact Nat.le_refl _, .inl e⟩
  · exact ⟨k, cells, xs[i], _, c1, rfl, hk, List.getElem?_eq_getElem hi, hcell, hr.le.1, .inr ⟨g, rfl, hg, hr.lt, hr⟩⟩
theorem skip_len (t : Int) : ∀ (k : Nat) (ls : List (List S24)), (skip t k ls).length ≤ ls.length := by
  intro k
  induction k with
  | zero => intro ls; exact Nat.le_refl _
  | succ k ih =>
    intro ls
    rw [skip]
    split
    · rename_i h
      exact Nat.le_trans (ih _) (taken_len _ _ h.1)
    · exact Nat.le_refl _
theorem skip_flat (t : Int) : ∀ (k : Nat) (ls : List (List S24)), Inv ls → (skip t k ls).flatten.length ≤ ls.flatten.length := by
  intro k
  induction k with
  | zero => intro ls _; exact Nat.le_refl _
  | succ k ih =>
    intro ls hI
    rw [skip]
    split
    · rename_i h
      obtain ⟨p, r, hp⟩ := hI.head h.1
      obtain ⟨h1, h2⟩ := hI.taken h.1 hp
      have h3 := h2.length_eq
      simp only [List.length_cons] at h3
      have h4 := ih (taken ls r) h1
      rw [hp]
      show (skip t k (taken ls r)).flatten.length ≤ _
      omega
    · exact Nat.le_refl _
theorem nextL_len {ls : List (List S24)} (h : Inv ls) (h0 : 0 < ls.length) : (nextL ls).length ≤ ls.length ∧ (nextL ls).flatten.length ≤ ls.flatten.length := by
  obtain ⟨p, r, hp⟩ := h.head h0
  obtain ⟨h1, h2⟩ := h.taken h0 hp
  have h3 := h2.length_eq
  simp only [List.length_cons] at h3
  unfold nextL
  rw [hp]
  have h4 := skip_len (hd (p :: r)).f0 ls.flatten.length (taken ls r)
  have h5 := skip_flat (hd (p :: r)).f0 ls.flatten.length (taken ls r) h1
  refine ⟨Nat.le_trans h4 (taken_len _ _ h0), ?_⟩
  show (skip (hd (p :: r)).f0 ls.flatten.length (taken ls r)).flatten.length ≤ _
  omega
theorem view_nil {m : List S24} (h : view m = []) : m = [] := by
  cases m with
  | nil => rfl
  | cons p t =>
    obtain ⟨q, hq, _⟩ := (view_is (p :: t)).3 p (by simp)
    rw [h] at hq
    cases hq
theorem Inv.empty {ls : List (List S24)} (h : Inv ls) (e : ls.flatten = []) : ls = [] := by
  cases ls with
  | nil => rfl
  | cons x t =>
    have := (h.ok x (by simp)).1
    rw [List.flatten_cons, List.append_eq_nil_iff] at e
    exact absurd e.1 this
theorem built_len (xs : List (List S24)) : (built xs).length ≤ xs.length := by
  have : ∀ (xs l : List (List S24)), (xs.foldl X.put1 l).length ≤ l.length + xs.length := by
    intro xs
    induction xs with
    | nil => intro l; simp
    | cons x t ih =>
      intro l
      have h1 := ih (X.put1 l x)
      have h2 := put1_len l x
      simp only [List.foldl_cons, List.length_cons]
      omega
  simpa [built] using this xs []
/-- The lists' views. -/
def views (l : List (List S24)) : List (List S24) := l.map view
theorem views_flat (l : List (List S24)) : (views l).flatten.length ≤ l.flatten.length := by
  unfold views
  induction l with
  | nil => simp
  | cons x t ih =>
    have := view_len x
    simp only [List.map_cons, List.flatten_cons, List.length_append]
    omega
theorem views_built (l : List (List S24)) : Inv (built (views l)) ∧ view (built (views l)).flatten = view (views l).flatten ∧ (built (views l)).flatten.length = (views l).flatten.length := by
  obtain ⟨h1, h2⟩ := built_inv (views l) (fun x hx => by
    obtain ⟨y, _, rfl⟩ := List.mem_map.1 hx
    exact (view_is y).1)
  exact ⟨h1, view_congr (fun p => h2.mem_iff), h2.length_eq⟩
end Go.Proofs.Ytfamnbejimbenaa.X
