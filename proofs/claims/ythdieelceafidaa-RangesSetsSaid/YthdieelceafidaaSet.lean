/- Plain facts on lists of ranges: which times they have, and that a normal list is told by its times. -/
import Derived.Test.YthdieelceafidaaLoop
namespace Go.Proofs.Ythdieelceafidaa.X
open Go.Proofs.Ythdieelceafidaa.G

/-- Is t a time of one of the ranges? -/
def mem (t : Int) (l : List S24) : Prop := ∃ r ∈ l, r.f0 ≤ t ∧ t < r.f1
/-- A normal list: no range is empty, each ends before the next one begins. -/
def NF (l : List S24) : Prop := (∀ r ∈ l, r.f0 < r.f1) ∧ l.Pairwise fun a b => a.f1 < b.f0
theorem mem_nil (t : Int) : ¬ mem t [] := fun ⟨_, h, _⟩ => by cases h
theorem mem_cons (t : Int) (a : S24) (l : List S24) : mem t (a :: l) ↔ (a.f0 ≤ t ∧ t < a.f1) ∨ mem t l := by
  constructor
  · rintro ⟨r, hr, h⟩
    rcases List.mem_cons.1 hr with rfl | hr
    · exact .inl h
    · exact .inr ⟨r, hr, h⟩
  · rintro (h | ⟨r, hr, h⟩)
    · exact ⟨a, List.mem_cons_self, h⟩
    · exact ⟨r, List.mem_cons_of_mem _ hr, h⟩
theorem mem_append (t : Int) (l m : List S24) : mem t (l ++ m) ↔ mem t l ∨ mem t m := by
  induction l with
  | nil => simp [mem_nil]
  | cons a l ih => rw [List.cons_append, mem_cons, mem_cons, ih, or_assoc]
theorem mem_one (t : Int) (a : S24) : mem t [a] ↔ a.f0 ≤ t ∧ t < a.f1 := by rw [mem_cons]; simp [mem_nil]
theorem NF.nil : NF [] := ⟨(fun _ h => by cases h), List.Pairwise.nil⟩
theorem NF.tail {a : S24} {l : List S24} (h : NF (a :: l)) : NF l := ⟨fun r hr => h.1 r (List.mem_cons_of_mem _ hr), (List.pairwise_cons.1 h.2).2⟩
theorem NF.cons {a : S24} {l : List S24} (ha : a.f0 < a.f1) (h : NF l) (hl : ∀ b ∈ l, a.f1 < b.f0) : NF (a :: l) :=
  ⟨fun r hr => by rcases List.mem_cons.1 hr with rfl | hr; exact ha; exact h.1 r hr, List.pairwise_cons.2 ⟨hl, h.2⟩⟩
theorem NF.head {a : S24} {l : List S24} (h : NF (a :: l)) : a.f0 < a.f1 ∧ ∀ b ∈ l, a.f1 < b.f0 := ⟨h.1 a List.mem_cons_self, (List.pairwise_cons.1 h.2).1⟩
theorem NF.low {a : S24} {l : List S24} (h : NF (a :: l)) (t : Int) (ht : mem t (a :: l)) : a.f0 ≤ t := by
  rcases (mem_cons t a l).1 ht with h1 | ⟨r, hr, h1, _⟩
  · exact h1.1
  · have := h.head.2 r hr; have := h.head.1; omega
theorem S24.eta {a b : S24} (h0 : a.f0 = b.f0) (h1 : a.f1 = b.f1) : a = b := by cases a; cases b; simp_all
theorem NF.unique : ∀ {l m : List S24}, NF l → NF m → (∀ t, mem t l ↔ mem t m) → l = m
  | [], [], _, _, _ => rfl
  | [], b :: m, _, hm, h => absurd ((h b.f0).2 ((mem_cons _ _ _).2 (.inl ⟨Int.le_refl _, hm.head.1⟩))) (mem_nil _)
  | a :: l, [], hl, _, h => absurd ((h a.f0).1 ((mem_cons _ _ _).2 (.inl ⟨Int.le_refl _, hl.head.1⟩))) (mem_nil _)
  | a :: l, b :: m, hl, hm, h => by
    have ha := hl.head
    have hb := hm.head
    have e0 : a.f0 = b.f0 := by
      have h1 := hm.low a.f0 ((h a.f0).1 ((mem_cons _ _ _).2 (.inl ⟨Int.le_refl _, ha.1⟩)))
      have h2 := hl.low b.f0 ((h b.f0).2 ((mem_cons _ _ _).2 (.inl ⟨Int.le_refl _, hb.1⟩)))
      omega
    have e1 : a.f1 = b.f1 := by
      rcases Int.lt_trichotomy a.f1 b.f1 with h1 | h1 | h1
      · rcases (mem_cons _ _ _).1 ((h a.f1).2 ((mem_cons _ _ _).2 (.inl ⟨by omega, h1⟩))) with h2 | ⟨r, hr, h2, _⟩
        · omega
        · have := ha.2 r hr; omega
      · exact h1
      · rcases (mem_cons _ _ _).1 ((h b.f1).1 ((mem_cons _ _ _).2 (.inl ⟨by omega, h1⟩))) with h2 | ⟨r, hr, h2, _⟩
        · omega
        · have := hb.2 r hr; omega
    obtain rfl := S24.eta e0 e1
    rw [NF.unique hl.tail hm.tail fun t => ?_]
    constructor
    · rintro ⟨r, hr, h1, h2⟩
      have hlt := ha.2 r hr
      rcases (mem_cons _ _ _).1 ((h t).1 ((mem_cons _ _ _).2 (.inr ⟨r, hr, h1, h2⟩))) with h3 | h3
      · omega
      · exact h3
    · rintro ⟨r, hr, h1, h2⟩
      have hlt := hb.2 r hr
      rcases (mem_cons _ _ _).1 ((h t).2 ((mem_cons _ _ _).2 (.inr ⟨r, hr, h1, h2⟩))) with h3 | h3
      · omega
      · exact h3

/-! One range more into a normal list, as the reference does it. -/
def absorb : List S24 → S24 → List S24
  | [], r => [r]
  | a :: l, r => if a.f0 ≤ r.f1 then absorb l ⟨min r.f0 a.f0, max r.f1 a.f1⟩ else r :: a :: l
def addP : List S24 → S24 → List S24
  | [], r => [r]
  | a :: l, r => if a.f1 < r.f0 then a :: addP l r else absorb (a :: l) r
def addR (l : List S24) (r : S24) : List S24 := if r.f1 ≤ r.f0 then l else addP l r
def nf (xs : List S24) : List S24 := xs.foldl addR []
theorem absorb_ok : ∀ (l : List S24) (r : S24), NF l → r.f0 < r.f1 → (∀ a ∈ l, r.f0 ≤ a.f1) → NF (absorb l r) ∧ (∀ t, mem t (absorb l r) ↔ mem t l ∨ (r.f0 ≤ t ∧ t < r.f1)) ∧ ∀ c : Int, c < r.f0 → (∀ a ∈ l, c < a.f0) → ∀ x ∈ absorb l r, c < x.f0
  | [], r, _, hr, _ => ⟨NF.cons hr NF.nil (fun _ h => by cases h), fun t => by simp [absorb, mem_one, mem_nil], fun c hc _ x hx => by simp [absorb] at hx; rw [hx]; exact hc⟩
  | a :: l, r, hl, hr, hle => by
    have ha := hl.head
    have hra := hle a List.mem_cons_self
    by_cases h : a.f0 ≤ r.f1
    · have e : absorb (a :: l) r = absorb l ⟨min r.f0 a.f0, max r.f1 a.f1⟩ := if_pos h
      rw [e]
      obtain ⟨i1, i2, i3⟩ := absorb_ok l ⟨min r.f0 a.f0, max r.f1 a.f1⟩ hl.tail (by show min r.f0 a.f0 < max r.f1 a.f1; omega)
        (fun b hb => by have := ha.2 b hb; have := hl.tail.1 b hb; show min r.f0 a.f0 ≤ b.f1; omega)
      refine ⟨i1, fun t => ?_, fun c hc hca => i3 c (by have := hca a List.mem_cons_self; show c < min r.f0 a.f0; omega) fun b hb => hca b (List.mem_cons_of_mem _ hb)⟩
      rw [i2 t, mem_cons]
      have : (min r.f0 a.f0 ≤ t ∧ t < max r.f1 a.f1) ↔ (a.f0 ≤ t ∧ t < a.f1) ∨ (r.f0 ≤ t ∧ t < r.f1) := by omega
      constructor
      · rintro (h1 | h1)
        · exact .inl (.inr h1)
        · rcases this.1 h1 with h2 | h2
          · exact .inl (.inl h2)
          · exact .inr h2
      · rintro ((h1 | h1) | h1)
        · exact .inr (this.2 (.inl h1))
        · exact .inl h1
        · exact .inr (this.2 (.inr h1))
    · have e : absorb (a :: l) r = r :: a :: l := if_neg h
      rw [e]
      refine ⟨NF.cons hr hl fun b hb => ?_, fun t => ?_, fun c hc hca x hx => ?_⟩
      · rcases List.mem_cons.1 hb with rfl | hb
        · omega
        · have := ha.2 b hb; omega
      · rw [mem_cons]
        exact or_comm
      · rcases List.mem_cons.1 hx with rfl | hx
        · exact hc
        · exact hca x hx
theorem addP_ok : ∀ (l : List S24) (r : S24), NF l → r.f0 < r.f1 → NF (addP l r) ∧ (∀ t, mem t (addP l r) ↔ mem t l ∨ (r.f0 ≤ t ∧ t < r.f1)) ∧ ∀ c : Int, c < r.f0 → (∀ a ∈ l, c < a.f0) → ∀ x ∈ addP l r, c < x.f0
  | [], r, hl, hr => absorb_ok [] r hl hr (fun _ h => by cases h)
  | a :: l, r, hl, hr => by
    have ha := hl.head
    by_cases h : a.f1 < r.f0
    · have e : addP (a :: l) r = a :: addP l r := if_pos h
      rw [e]
      obtain ⟨i1, i2, i3⟩ := addP_ok l r hl.tail hr
      refine ⟨NF.cons ha.1 i1 (i3 a.f1 h ha.2), fun t => ?_, fun c hc hca x hx => ?_⟩
      · rw [mem_cons, i2 t, mem_cons, or_assoc]
      · rcases List.mem_cons.1 hx with rfl | hx
        · exact hca _ List.mem_cons_self
        · exact i3 c hc (fun b hb => hca b (List.mem_cons_of_mem _ hb)) x hx
    · have e : addP (a :: l) r = absorb (a :: l) r := if_neg h
      rw [e]
      refine absorb_ok (a :: l) r hl hr fun b hb => ?_
      rcases List.mem_cons.1 hb with rfl | hb
      · omega
      · have := ha.2 b hb; have := hl.tail.1 b hb; omega
theorem addR_ok (l : List S24) (r : S24) (hl : NF l) : NF (addR l r) ∧ ∀ t, mem t (addR l r) ↔ mem t l ∨ (r.f0 ≤ t ∧ t < r.f1) := by
  unfold addR
  by_cases h : r.f1 ≤ r.f0
  · rw [if_pos h]
    exact ⟨hl, fun t => ⟨.inl, fun h1 => h1.elim id fun h2 => by omega⟩⟩
  · rw [if_neg h]
    have := addP_ok l r hl (by omega)
    exact ⟨this.1, this.2.1⟩
theorem fold_ok (xs acc : List S24) (h : NF acc) : NF (xs.foldl addR acc) ∧ ∀ t, mem t (xs.foldl addR acc) ↔ mem t acc ∨ mem t xs := by
  induction xs generalizing acc with
  | nil => exact ⟨h, fun t => by simp [mem_nil]⟩
  | cons x xs ih =>
    have h1 := addR_ok acc x h
    have h2 := ih (addR acc x) h1.1
    refine ⟨h2.1, fun t => ?_⟩
    rw [List.foldl_cons, h2.2 t, h1.2 t, mem_cons, or_assoc]
theorem nf_NF (xs : List S24) : NF (nf xs) := (fold_ok xs [] NF.nil).1
theorem nf_mem (xs : List S24) (t : Int) : mem t (nf xs) ↔ mem t xs := by
  rw [nf, (fold_ok xs [] NF.nil).2 t]; simp [mem_nil]
theorem nf_of {xs l : List S24} (hl : NF l) (h : ∀ t, mem t l ↔ mem t xs) : nf xs = l := NF.unique (nf_NF xs) hl fun t => (nf_mem xs t).trans (h t).symm
theorem nf_eq {xs ys : List S24} (h : ∀ t, mem t xs ↔ mem t ys) : nf xs = nf ys := nf_of (nf_NF ys) fun t => (nf_mem ys t).trans (h t).symm
theorem nf_snoc (xs : List S24) (r : S24) : nf (xs ++ [r]) = addR (nf xs) r := by simp [nf]

/-! What the program makes of the sorted ranges. -/
theorem last_or (out : List S24) : out = [] ∨ ∃ p l, out = p ++ [l] := by
  rcases List.eq_nil_or_concat out with h | ⟨p, l, h⟩
  · exact .inl h
  · exact .inr ⟨p, l, by simpa using h⟩
theorem onto_ok (out : List S24) (x : S24) (h : NF out) (hx : x.f0 < x.f1) (hle : ∀ l ∈ out, l.f0 ≤ x.f0) : NF (onto out x) ∧ (∀ t, mem t (onto out x) ↔ mem t out ∨ (x.f0 ≤ t ∧ t < x.f1)) ∧ ∀ y ∈ onto out x, y.f0 = x.f0 ∨ ∃ l ∈ out, y.f0 = l.f0 := by
  rcases last_or out with rfl | ⟨p, l, rfl⟩
  · refine ⟨NF.cons hx NF.nil (fun _ h => by cases h), fun t => by simp [onto, mem_one, mem_nil], fun y hy => by simp [onto] at hy; exact .inl (by rw [hy])⟩
  · have hl := hle l (by simp)
    have hp := List.pairwise_append.1 h.2
    by_cases hm : x.f0 ≤ l.f1
    · have e : onto (p ++ [l]) x = p ++ [⟨l.f0, max l.f1 x.f1⟩] := by simp [onto, hm]
      have hll := h.1 l (by simp)
      rw [e]
      refine ⟨⟨fun r hr => ?_, List.pairwise_append.2 ⟨hp.1, List.pairwise_singleton _ _, fun a ha b hb => ?_⟩⟩, fun t => ?_, fun y hy => ?_⟩
      · rcases List.mem_append.1 hr with hr | hr
        · exact h.1 r (by simp [hr])
        · rw [List.mem_singleton.1 hr]; show l.f0 < max l.f1 x.f1; omega
      · rw [List.mem_singleton.1 hb]; exact hp.2.2 a ha l (by simp)
      · rw [mem_append, mem_append, mem_one, mem_one, or_assoc]
        have : (l.f0 ≤ t ∧ t < max l.f1 x.f1) ↔ (l.f0 ≤ t ∧ t < l.f1) ∨ (x.f0 ≤ t ∧ t < x.f1) := by omega
        exact or_congr Iff.rfl this
      · rcases List.mem_append.1 hy with hy | hy
        · exact .inr ⟨y, by simp [hy], rfl⟩
        · rw [List.mem_singleton.1 hy]; exact .inr ⟨l, by simp, rfl⟩
    · have e : onto (p ++ [l]) x = p ++ [l] ++ [x] := by simp [onto, hm]
      rw [e]
      refine ⟨⟨fun r hr => ?_, List.pairwise_append.2 ⟨h.2, List.pairwise_singleton _ _, fun a ha b hb => ?_⟩⟩, fun t => ?_, fun y hy => ?_⟩
      · rcases List.mem_append.1 hr with hr | hr
        · exact h.1 r hr
        · rw [List.mem_singleton.1 hr]; exact hx
      · rw [List.mem_singleton.1 hb]
        rcases List.mem_append.1 ha with ha | ha
        · have h1 := hp.2.2 a ha l (by simp); have h2 := h.1 l (by simp); omega
        · rw [List.mem_singleton.1 ha]; omega
      · rw [mem_append, mem_one]
      · rcases List.mem_append.1 hy with hy | hy
        · exact .inr ⟨y, hy, rfl⟩
        · exact .inl (by rw [List.mem_singleton.1 hy])
theorem made_ok (ys acc done : List S24) (h : NF acc) (hp : ∀ r ∈ ys, r.f0 < r.f1) (hs : (done ++ ys).Pairwise fun a b => a.f0 ≤ b.f0) (hd : ∀ y ∈ acc, ∃ r ∈ done, y.f0 = r.f0) :
    NF (ys.foldl onto acc) ∧ ∀ t, mem t (ys.foldl onto acc) ↔ mem t acc ∨ mem t ys := by
  induction ys generalizing acc done with
  | nil => exact ⟨h, fun t => by simp [mem_nil]⟩
  | cons x ys ih =>
    have hpw := List.pairwise_append.1 hs
    have h1 := onto_ok acc x h (hp x List.mem_cons_self) fun l hl => by
      obtain ⟨r, hr, e⟩ := hd l hl
      rw [e]
      exact hpw.2.2 r hr x List.mem_cons_self
    have h2 := ih (onto acc x) (done ++ [x]) h1.1 (fun r hr => hp r (List.mem_cons_of_mem _ hr)) (by rw [List.append_assoc]; exact hs) fun y hy => by
      rcases h1.2.2 y hy with e | ⟨l, hl, e⟩
      · exact ⟨x, by simp, e⟩
      · obtain ⟨r, hr, e2⟩ := hd l hl
        exact ⟨r, by simp [hr], e.trans e2⟩
    refine ⟨h2.1, fun t => ?_⟩
    rw [List.foldl_cons, h2.2 t, h1.2.1 t, mem_cons, or_assoc]
theorem mem_full (xs : List S24) (t : Int) : mem t (full xs) ↔ mem t xs := by
  constructor
  · rintro ⟨r, hr, h⟩
    exact ⟨r, (List.mem_filter.1 hr).1, h⟩
  · rintro ⟨r, hr, h⟩
    exact ⟨r, List.mem_filter.2 ⟨hr, by simp; omega⟩, h⟩
theorem made_nf {xs ys : List S24} (hp : ys.Perm (full xs)) (hs : ys.Pairwise fun a b => a.f0 ≤ b.f0) : made ys = nf xs := by
  have h := made_ok ys [] [] NF.nil (fun r hr => by have := (List.mem_filter.1 (hp.mem_iff.1 hr)).2; simp at this; omega) (by simpa using hs) (fun _ h => by cases h)
  refine (nf_of h.1 fun t => ?_).symm
  rw [h.2 t]
  simp only [mem_nil, false_or]
  rw [← mem_full xs t]
  constructor
  · rintro ⟨r, hr, q⟩; exact ⟨r, hp.mem_iff.1 hr, q⟩
  · rintro ⟨r, hr, q⟩; exact ⟨r, hp.mem_iff.2 hr, q⟩
end Go.Proofs.Ythdieelceafidaa.X
