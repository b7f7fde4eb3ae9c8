/- Plain facts on lists of points: their view is told by which points there are. -/
import Derived.Test.YtfamnbejimbenaaGx0
namespace Go.Proofs.Ytfamnbejimbenaa.X
open Go.Proofs.Ytfamnbejimbenaa.G

/-- Of two points of one time: does the first one win? -/
def wins (a b : S24) : Bool := decide (a.f2 > b.f2 ∨ a.f2 = b.f2 ∧ a.f1 > b.f1)
theorem wins_iff (a b : S24) : wins a b = true ↔ (a.f2 > b.f2 ∨ a.f2 = b.f2 ∧ a.f1 > b.f1) := decide_eq_true_iff
theorem wins_not (a b : S24) : wins a b = false ↔ ¬ (a.f2 > b.f2 ∨ a.f2 = b.f2 ∧ a.f1 > b.f1) := decide_eq_false_iff_not
theorem wins_irrefl (a : S24) : wins a a = false := by rw [wins_not]; omega
/-- A point that does not win against one that does not win against a third one does not win against that. -/
theorem loses_trans {a b c : S24} (h1 : wins a b = false) (h2 : wins b c = false) : wins a c = false := by rw [wins_not] at *; omega
theorem wins_loses {a b : S24} (h : wins a b = true) : wins b a = false := by rw [wins_iff] at h; rw [wins_not]; omega
theorem S24.eq3 {a b : S24} (h0 : a.f0 = b.f0) (h1 : a.f1 = b.f1) (h2 : a.f2 = b.f2) : a = b := by cases a; cases b; simp_all
theorem even_eq {a b : S24} (h0 : a.f0 = b.f0) (h1 : wins a b = false) (h2 : wins b a = false) : a = b := by
  rw [wins_not] at h1 h2
  exact S24.eq3 h0 (by omega) (by omega)
/-- The times rise. -/
def Rises (m : List S24) : Prop := m.Pairwise fun a b => a.f0 < b.f0
/-- m is the view of the points l. -/
structure View (l m : List S24) : Prop where
  rises : Rises m
  sub : ∀ p ∈ m, p ∈ l
  best : ∀ p ∈ l, ∃ q ∈ m, q.f0 = p.f0 ∧ wins p q = false
theorem Rises.one : ∀ {m : List S24}, Rises m → ∀ {p q : S24}, p ∈ m → q ∈ m → p.f0 = q.f0 → p = q
  | a :: m, h, p, q, hp, hq, e => by
    have h1 := List.pairwise_cons.1 h
    rcases List.mem_cons.1 hp with rfl | hp' <;> rcases List.mem_cons.1 hq with rfl | hq'
    · rfl
    · have := h1.1 q hq'; omega
    · have := h1.1 p hp'; omega
    · exact Rises.one h1.2 hp' hq' e
theorem Rises.ext : ∀ {l m : List S24}, Rises l → Rises m → (∀ p, p ∈ l ↔ p ∈ m) → l = m
  | [], [], _, _, _ => rfl
  | [], b :: m, _, _, h => absurd ((h b).2 List.mem_cons_self) (by simp)
  | a :: l, [], _, _, h => absurd ((h a).1 List.mem_cons_self) (by simp)
  | a :: l, b :: m, hl, hm, h => by
    have h1 := List.pairwise_cons.1 hl
    have h2 := List.pairwise_cons.1 hm
    have e : a = b := by
      rcases List.mem_cons.1 ((h a).1 List.mem_cons_self) with h3 | h3
      · exact h3
      · rcases List.mem_cons.1 ((h b).2 List.mem_cons_self) with h4 | h4
        · exact h4.symm
        · have := h2.1 a h3; have := h1.1 b h4; omega
    subst e
    rw [Rises.ext h1.2 h2.2 fun p => ⟨fun hp => ?_, fun hp => ?_⟩]
    · rcases List.mem_cons.1 ((h p).1 (List.mem_cons_of_mem _ hp)) with rfl | h3
      · exact absurd (h1.1 p hp) (by omega)
      · exact h3
    · rcases List.mem_cons.1 ((h p).2 (List.mem_cons_of_mem _ hp)) with rfl | h3
      · exact absurd (h2.1 p hp) (by omega)
      · exact h3
theorem View.half {l m m' : List S24} (h : View l m) (h' : View l m') : ∀ p, p ∈ m → p ∈ m' := by
  intro p hp
  obtain ⟨q, hq, e1, w1⟩ := h'.best p (h.sub p hp)
  obtain ⟨q', hq', e2, w2⟩ := h.best q (h'.sub q hq)
  obtain rfl : p = q' := h.rises.one hp hq' (by omega)
  obtain rfl : q = p := even_eq (by omega) w2 w1
  exact hq
/-- There is one view. -/
theorem View.unique {l m m' : List S24} (h : View l m) (h' : View l m') : m = m' :=
  Rises.ext h.rises h'.rises fun p => ⟨h.half h' p, h'.half h p⟩
/-- Only which points there are matters. -/
theorem View.of_mem {l l' m : List S24} (h : View l m) (hl : ∀ p, p ∈ l ↔ p ∈ l') : View l' m :=
  ⟨h.rises, fun p hp => (hl p).1 (h.sub p hp), fun p hp => h.best p ((hl p).2 hp)⟩
/-- Points that a view came of, and the view's own, have that view. -/
theorem View.more {l l' m : List S24} (h : View l m) (h1 : ∀ p ∈ l', p ∈ l) (h2 : ∀ p ∈ m, p ∈ l') : View l' m :=
  ⟨h.rises, h2, fun p hp => h.best p (h1 p hp)⟩
theorem View.self {m : List S24} (h : Rises m) : View m m := ⟨h, fun _ hp => hp, fun p hp => ⟨p, hp, rfl, wins_irrefl p⟩⟩
/-- What is put together out of views is put together of what they came of. -/
theorem View.join {a b va vb m : List S24} (ha : View a va) (hb : View b vb) (h : View (va ++ vb) m) : View (a ++ b) m := by
  refine ⟨h.rises, fun p hp => ?_, fun p hp => ?_⟩
  · rcases List.mem_append.1 (h.sub p hp) with h1 | h1
    · exact List.mem_append_left _ (ha.sub p h1)
    · exact List.mem_append_right _ (hb.sub p h1)
  · have : ∃ q ∈ va ++ vb, q.f0 = p.f0 ∧ wins p q = false := by
      rcases List.mem_append.1 hp with h1 | h1
      · obtain ⟨q, hq, r⟩ := ha.best p h1; exact ⟨q, List.mem_append_left _ hq, r⟩
      · obtain ⟨q, hq, r⟩ := hb.best p h1; exact ⟨q, List.mem_append_right _ hq, r⟩
    obtain ⟨q, hq, e1, w1⟩ := this
    obtain ⟨q', hq', e2, w2⟩ := h.best q hq
    exact ⟨q', hq', by omega, loses_trans w1 w2⟩

/-! Two views put together, as the reference does it. -/
def both : List S24 → List S24 → List S24
  | [], b => b
  | x :: a, [] => x :: a
  | x :: a, y :: b =>
    if x.f0 < y.f0 then x :: both a (y :: b)
    else if y.f0 < x.f0 then y :: both (x :: a) b
    else (if wins y x then y else x) :: both a b
  termination_by a b => a.length + b.length
theorem both_nil (b : List S24) : both [] b = b := by unfold both; rfl
theorem both_nil' (a : List S24) : both a [] = a := by cases a <;> (unfold both; rfl)
theorem both_cons (x y : S24) (a b : List S24) : both (x :: a) (y :: b) = if x.f0 < y.f0 then x :: both a (y :: b) else if y.f0 < x.f0 then y :: both (x :: a) b else (if wins y x then y else x) :: both a b := by
  rw [both]
theorem both_sub : ∀ (a b : List S24), ∀ p ∈ both a b, p ∈ a ++ b
  | [], b, p, h => by rw [both_nil] at h; exact h
  | x :: a, [], p, h => by rw [both_nil'] at h; simpa using h
  | x :: a, y :: b, p, h => by
    rw [both_cons] at h
    split at h
    · rcases List.mem_cons.1 h with rfl | h
      · simp
      · have := both_sub a (y :: b) p h; simp at this ⊢; rcases this with h | h | h <;> simp [h]
    · split at h
      · rcases List.mem_cons.1 h with rfl | h
        · simp
        · have := both_sub (x :: a) b p h; simp at this ⊢; rcases this with h | h | h <;> simp [h]
      · rcases List.mem_cons.1 h with rfl | h
        · split <;> simp
        · have := both_sub a b p h; simp at this ⊢; rcases this with h | h <;> simp [h]
  termination_by a b => a.length + b.length
theorem both_rises : ∀ (a b : List S24), Rises a → Rises b → Rises (both a b)
  | [], b, _, hb => by rw [both_nil]; exact hb
  | x :: a, [], ha, _ => by rw [both_nil']; exact ha
  | x :: a, y :: b, ha, hb => by
    have h1 := List.pairwise_cons.1 ha
    have h2 := List.pairwise_cons.1 hb
    rw [both_cons]
    split
    · refine List.pairwise_cons.2 ⟨fun q hq => ?_, both_rises a (y :: b) h1.2 hb⟩
      have := both_sub a (y :: b) q hq
      rcases List.mem_append.1 this with h | h
      · exact h1.1 q h
      · rcases List.mem_cons.1 h with rfl | h
        · omega
        · have := h2.1 q h; omega
    · split
      · refine List.pairwise_cons.2 ⟨fun q hq => ?_, both_rises (x :: a) b ha h2.2⟩
        have := both_sub (x :: a) b q hq
        rcases List.mem_append.1 this with h | h
        · rcases List.mem_cons.1 h with rfl | h
          · omega
          · have := h1.1 q h; omega
        · exact h2.1 q h
      · refine List.pairwise_cons.2 ⟨fun q hq => ?_, both_rises a b h1.2 h2.2⟩
        have e : (if wins y x then y else x).f0 = x.f0 := by split <;> omega
        rw [e]
        rcases List.mem_append.1 (both_sub a b q hq) with h | h
        · exact h1.1 q h
        · have := h2.1 q h; omega
  termination_by a b => a.length + b.length
theorem both_best : ∀ (a b : List S24), ∀ p ∈ a ++ b, ∃ q ∈ both a b, q.f0 = p.f0 ∧ wins p q = false
  | [], b, p, h => ⟨p, by rw [both_nil]; exact h, rfl, wins_irrefl p⟩
  | x :: a, [], p, h => ⟨p, by rw [both_nil']; simpa using h, rfl, wins_irrefl p⟩
  | x :: a, y :: b, p, h => by
    rw [both_cons]
    split
    · have h' : p = x ∨ p ∈ a ++ (y :: b) := by simpa using h
      rcases h' with rfl | h'
      · exact ⟨p, List.mem_cons_self, rfl, wins_irrefl p⟩
      · obtain ⟨q, hq, r⟩ := both_best a (y :: b) p h'
        exact ⟨q, List.mem_cons_of_mem _ hq, r⟩
    · split
      · have h' : p = y ∨ p ∈ (x :: a) ++ b := by
          simp at h ⊢; rcases h with h | h | h | h <;> simp [h]
        rcases h' with rfl | h'
        · exact ⟨p, List.mem_cons_self, rfl, wins_irrefl p⟩
        · obtain ⟨q, hq, r⟩ := both_best (x :: a) b p h'
          exact ⟨q, List.mem_cons_of_mem _ hq, r⟩
      · have h' : p = x ∨ p = y ∨ p ∈ a ++ b := by
          simp at h ⊢; rcases h with h | h | h | h <;> simp [h]
        rcases h' with rfl | rfl | h'
        · refine ⟨_, List.mem_cons_self, ?_, ?_⟩
          · split <;> omega
          · split
            · rename_i hw; exact wins_loses hw
            · exact wins_irrefl p
        · refine ⟨_, List.mem_cons_self, ?_, ?_⟩
          · split <;> omega
          · split
            · exact wins_irrefl p
            · rename_i hw; simpa using hw
        · obtain ⟨q, hq, r⟩ := both_best a b p h'
          exact ⟨q, List.mem_cons_of_mem _ hq, r⟩
  termination_by a b => a.length + b.length
theorem both_view {a b va vb : List S24} (ha : View a va) (hb : View b vb) : View (a ++ b) (both va vb) :=
  ha.join hb ⟨both_rises va vb ha.rises hb.rises, both_sub va vb, both_best va vb⟩
theorem both_len (a b : List S24) : (both a b).length ≤ a.length + b.length := by
  fun_induction both a b with
  | case1 => simp
  | case2 => simp
  | case3 _ _ _ _ _ ih => simp at ih ⊢; omega
  | case4 _ _ _ _ _ _ ih => simp at ih ⊢; omega
  | case5 _ _ _ _ _ _ ih => simp at ih ⊢; omega
/-- The view of points, whatever their order. -/
def view : List S24 → List S24
  | [] => []
  | p :: l => both [p] (view l)
theorem view_is : ∀ l : List S24, View l (view l)
  | [] => View.self List.Pairwise.nil
  | p :: l => both_view (a := [p]) (View.self (List.pairwise_singleton _ _)) (view_is l)
theorem view_len : ∀ l : List S24, (view l).length ≤ l.length
  | [] => Nat.le_refl _
  | p :: l => by have h1 := both_len [p] (view l); have h2 := view_len l; simp only [view, List.length_cons, List.length_nil] at *; omega
theorem View.eq {l m : List S24} (h : View l m) : m = view l := h.unique (view_is l)
theorem view_congr {l l' : List S24} (h : ∀ p, p ∈ l ↔ p ∈ l') : view l = view l' := ((view_is l).of_mem h).eq
theorem view_append (a b : List S24) : view (a ++ b) = both (view a) (view b) := (both_view (view_is a) (view_is b)).eq.symm

/-! What the program does: sort, then of each time keep the first one. -/
/-- Ahead of: by times, of one time the one that wins. -/
def aheadP (a b : S24) : Prop := a.f0 < b.f0 ∨ a.f0 = b.f0 ∧ wins b a = false
def compactFrom (last : S24) : List S24 → List S24
  | [] => []
  | p :: l => if p.f0 = last.f0 then compactFrom p l else p :: compactFrom p l
def compact : List S24 → List S24
  | [] => []
  | p :: l => p :: compactFrom p l
theorem compactFrom_sub (last : S24) (l : List S24) : ∀ p ∈ compactFrom last l, p ∈ l := by
  induction l generalizing last with
  | nil => intro p h; exact h
  | cons x l ih =>
    intro p h
    simp only [compactFrom] at h
    split at h
    · exact List.mem_cons_of_mem _ (ih x p h)
    · rcases List.mem_cons.1 h with rfl | h
      · exact List.mem_cons_self
      · exact List.mem_cons_of_mem _ (ih x p h)
theorem compactFrom_view (best last : S24) (l : List S24) (e : last.f0 = best.f0) (hb : ∀ q ∈ l, q.f0 = best.f0 → wins q best = false) (hs : l.Pairwise aheadP) (hl : ∀ q ∈ l, aheadP last q) :
    Rises (best :: compactFrom last l) ∧ ∀ p ∈ l, ∃ q ∈ best :: compactFrom last l, q.f0 = p.f0 ∧ wins p q = false := by
  induction l generalizing best last with
  | nil => exact ⟨List.pairwise_singleton _ _, fun p h => by cases h⟩
  | cons x l ih =>
    have h1 := List.pairwise_cons.1 hs
    have hx := hl x List.mem_cons_self
    simp only [compactFrom]
    split
    · rename_i ex
      obtain ⟨i1, i2⟩ := ih best x (by omega) (fun q hq => hb q (List.mem_cons_of_mem _ hq)) h1.2 h1.1
      refine ⟨i1, fun p hp => ?_⟩
      rcases List.mem_cons.1 hp with rfl | hp
      · exact ⟨best, List.mem_cons_self, by omega, hb p List.mem_cons_self (by omega)⟩
      · exact i2 p hp
    · rename_i ex
      have hlt : last.f0 < x.f0 := by rcases hx with h | h <;> omega
      obtain ⟨i1, i2⟩ := ih x x rfl (fun q hq he => by rcases h1.1 q hq with h | h; omega; exact h.2) h1.2 h1.1
      refine ⟨List.pairwise_cons.2 ⟨fun q hq => ?_, i1⟩, fun p hp => ?_⟩
      · rcases List.mem_cons.1 hq with rfl | hq
        · omega
        · have := (List.pairwise_cons.1 i1).1 q hq; omega
      · rcases List.mem_cons.1 hp with rfl | hp
        · exact ⟨p, by simp, rfl, wins_irrefl p⟩
        · obtain ⟨q, hq, r⟩ := i2 p hp
          exact ⟨q, List.mem_cons_of_mem _ hq, r⟩
theorem compact_view {l : List S24} (hs : l.Pairwise aheadP) : View l (compact l) := by
  cases l with
  | nil => exact View.self List.Pairwise.nil
  | cons p l =>
    have h1 := List.pairwise_cons.1 hs
    obtain ⟨i1, i2⟩ := compactFrom_view p p l rfl (fun q hq he => by rcases h1.1 q hq with h | h; omega; exact h.2) h1.2 h1.1
    refine ⟨i1, fun q hq => ?_, fun q hq => ?_⟩
    · rcases List.mem_cons.1 hq with rfl | hq
      · exact List.mem_cons_self
      · exact List.mem_cons_of_mem _ (compactFrom_sub p l q hq)
    · rcases List.mem_cons.1 hq with rfl | hq
      · exact ⟨q, List.mem_cons_self, rfl, wins_irrefl q⟩
      · exact i2 q hq
/-- Sorted and compacted: the view. -/
theorem compact_sorted {ys l : List S24} (hp : ys.Perm l) (hs : ys.Pairwise aheadP) : compact ys = view l :=
  ((compact_view hs).of_mem fun _ => hp.mem_iff).eq
end Go.Proofs.Ytfamnbejimbenaa.X
