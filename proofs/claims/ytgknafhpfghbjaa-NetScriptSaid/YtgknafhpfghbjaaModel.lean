/- What a net's calls answer and leave, as functions on lists of packets; what a call leaves in memory. -/
import Derived.Test.YtgknafhpfghbjaaCopy
namespace Go.Proofs.Ytgknafhpfghbjaa.X
open Go.RowKit Go.Proofs.Ytgknafhpfghbjaa.B Go.Proofs.Ytgknafhpfghbjaa Go.Proofs.YtgknafhpfghbjaaW.PrintWords Go.Proofs.YtgknafhpfghbjaaW.PrintLast Go.Proofs.YtgknafhpfghbjaaW.PrintMore

def sendE (xs : List S32) (ds : List Int) : Int := if 32768 < ds.length then 1 else if xs.length = 256 then 12 else 0
def sendL (xs : List S32) (f t : Int) (ds : List Int) : List S32 := if 32768 < ds.length then xs else if xs.length = 256 then xs else xs ++ [⟨f, t, ds⟩]
def isAt (xs : List S32) (i : Int) : Bool := decide (0 ≤ i) && decide (i < (xs.length : Int))
def takeE (xs : List S32) (i : Int) : Int := if isAt xs i then 0 else 11
def takeP (xs : List S32) (i : Int) : S32 := if isAt xs i then rd_T32 xs i else z32
def takeL (xs : List S32) (i : Int) : List S32 := if isAt xs i then xs.eraseIdx i.toNat else xs
def dblE (xs : List S32) (i : Int) : Int := if isAt xs i then (if xs.length = 256 then 12 else 0) else 11
def dblL (xs : List S32) (i : Int) : List S32 := if isAt xs i then (if xs.length = 256 then xs else xs ++ [rd_T32 xs i]) else xs
theorem isAt_true {xs : List S32} {i : Int} : isAt xs i = true ↔ 0 ≤ i ∧ i < (xs.length : Int) := by simp [isAt]
theorem isAt_false {xs : List S32} {i : Int} : isAt xs i = false ↔ i < 0 ∨ (0 ≤ i ∧ (xs.length : Int) ≤ i) := by
  rw [← Bool.not_eq_true, isAt_true]; omega
theorem rd_mem {xs : List S32} {i : Int} (h : isAt xs i = true) : rd_T32 xs i ∈ xs := by
  rw [isAt_true] at h
  have : i.toNat < xs.length := by omega
  simp [rd_T32, List.getD_eq_getElem?_getD, List.getElem?_eq_getElem this]

/-- What a net's call leaves. -/
def NPost (t : Nat) (w w' : World) (base g : Nat) (ok : Nat → Prop) (v : Value) (xs : List S32) : Prop :=
  ∃ v1, Net t w' base g ok v1 xs ∧ Below base w w' ∧ Kept w w' (Foot g v) ∧ (v1.ownBlock = v.ownBlock ∨ ∃ b, v1.ownBlock = some b ∧ w.heap.size ≤ b)
section
variable {t : Nat} {w w1 w2 : World} {base g : Nat} {ok ok' : Nat → Prop} {v v1 : Value} {xs : List S32} {p : S32}
theorem below_base {b : Nat} (h : Below w.heap.size w w1) (hb : b ≤ w.heap.size) : Below b w w1 := h.mono hb
theorem Net.post_same (h : Net t w base g ok v xs) (hbase : base ≤ w.heap.size) (hb : Below w.heap.size w w1) : NPost t w w1 base g ok v xs :=
  ⟨v, h.below hb, hb.mono hbase, Kept.of_below hb _, .inl rfl⟩
theorem Net.ne_row (h : Net t w base g ok v xs) : some g ≠ v.ownBlock := by
  intro he
  obtain ⟨_, _, _, cells, hc⟩ := h.row.own g he.symm
  have hb := h.box
  rw [hc] at hb
  injection hb with hb
  injection hb with _ hb
  rcases h.ty with e | e <;> rw [e] at hb <;> cases hb
theorem Net.box_grown (h : Net t w base g ok v xs) (hb1 : Below w.heap.size w w1) (hg : w1.grownBy w2 v.ownBlock) : w2.heap[g]? = some (.cells #[v] t (0, 0)) := blk_grown (h.below hb1).box hg h.ne_row
theorem Net.ty_ne (h : Net t w base g ok v xs) : ∀ q, q ∈ 32 :: k32.E → q ≠ t := by
  intro q hq
  have : q ∈ [32, 5] := hq
  rcases h.ty with e | e <;> subst e <;> simp at this <;> omega
theorem Net.post_add (h : Net t w base g ok v xs) (hbase : base ≤ w.heap.size) (hb1 : Below w.heap.size w w1) (hR : k32.R 32 w2 base ok v1 (xs ++ [p])) (hg : w1.grownBy w2 v.ownBlock) (hat : v1.ownBlock = v.ownBlock ∨ ∃ b, v1.ownBlock = some b ∧ w1.heap.size ≤ b) (hl : xs.length + 1 ≤ 256) (hp : p.f2.length ≤ 32768) :
    NPost t w (w2.setCell ⟨g, 0, none⟩ v1) base g ok v (xs ++ [p]) := by
  have hb2 := h.box_grown hb1 hg
  refine ⟨v1, ⟨blk_put hb2 0 _ rfl, prow_of_R (Kd.R_set hR hb2 h.ty_ne 0 _), h.ge, h.ty, by simp; omega, ?_⟩, ?_, ?_, ?_⟩
  · intro x hx
    rcases List.mem_append.1 hx with hx | hx
    · exact h.small x hx
    · rw [List.mem_singleton.1 hx]; exact hp
  · exact ((hb1.mono hbase).grown hg (Nat.le_trans hbase hb1.size) (fun k hk => (h.row.own k hk).2.1)).setCell h.ge _
  · exact (((Kept.refl w (Foot g v)).below hb1).of_grown hg (fun k hk => .inl (.inr hk))).setCell (.inl (.inl rfl)) _
  · rcases hat with hat | ⟨b, hb, hle⟩
    · exact .inl hat
    · exact .inr ⟨b, hb, Nat.le_trans hb1.size hle⟩
theorem Net.post_cut (h : Net t w base g ok v xs) (hbase : base ≤ w.heap.size) (hb1 : Below w.heap.size w w1) {ys : List S32} (hR : PRow w2 base ok v1 ys) (hg : w1.grownBy w2 none) (hat : v1.ownBlock = v.ownBlock ∨ ∃ b, v1.ownBlock = some b ∧ w1.heap.size ≤ b) (hl : ys.length ≤ 256) (hp : ∀ x ∈ ys, x ∈ xs) :
    NPost t w (w2.setCell ⟨g, 0, none⟩ v1) base g ok v ys := by
  have hb2 : w2.heap[g]? = some (.cells #[v] t (0, 0)) := blk_grown (h.below hb1).box hg (by simp)
  have hrow : PRow (w2.setCell ⟨g, 0, none⟩ v1) base ok v1 ys := by
    obtain ⟨A, c, c0, e, hc, hle, hr⟩ := hR
    exact ⟨A, c, c0, e, hc, hle, Kd.R_set hr hb2 h.ty_ne 0 _⟩
  refine ⟨v1, ⟨blk_put hb2 0 _ rfl, hrow, h.ge, h.ty, hl, fun x hx => h.small x (hp x hx)⟩, ?_, ?_, ?_⟩
  · exact ((hb1.mono hbase).grown hg (Nat.le_trans hbase hb1.size) (by simp)).setCell h.ge _
  · exact (((Kept.refl w (Foot g v)).below hb1).of_grown hg (fun k hk => by cases hk)).setCell (.inl (.inl rfl)) _
  · rcases hat with hat | ⟨b, hb, hle⟩
    · exact .inl hat
    · exact .inr ⟨b, hb, Nat.le_trans hb1.size hle⟩
end
end Go.Proofs.Ytgknafhpfghbjaa.X
