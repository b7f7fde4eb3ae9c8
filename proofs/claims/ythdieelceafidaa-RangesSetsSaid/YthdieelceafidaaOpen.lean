/- A []Range that is an argument, opened: its elements as plain ranges. -/
import Derived.Test.YthdieelceafidaaGx0
import Derived.Deep.SlicePairs
import Derived.ChangeArms
import Derived.ChangeOld
import Derived.DataShut
namespace Go.Proofs.Ythdieelceafidaa.X
open Go.RowKit Go.Proofs.Ythdieelceafidaa.G Go.Deep Go.ChangeShapes Go.WideShapes Go.Proofs.YthdieelceafidaaW.PrintWords

/-- Each end is an int. -/
def Fits (xs : List S24) : Prop := ∀ x ∈ xs, Go.IntKind.i64.min ≤ x.f0 ∧ x.f0 ≤ Go.IntKind.i64.max ∧ Go.IntKind.i64.min ≤ x.f1 ∧ x.f1 ≤ Go.IntKind.i64.max
theorem open_rows {H : Type} {enc : TypeId × Value → H} {w : World} {base : Nat} {spare : Nat → Bool} {held : Bool} {v : Value} {d : DataW H} {pp : List MemPlace}
    (h : DataW.Trod enc Try.prog w base spare held 22 v d pp) (hv : ∃ a n c, v = .slice a n c) :
    ∃ (A : Option Addr) (c : Nat) (xs : List S24), v = .slice A xs.length c ∧ xs.length ≤ c ∧ Kd.C k24 w A xs.length xs ∧ Fits xs := by
  obtain ⟨a, n, c, rfl⟩ := hv
  obtain ⟨m, h⟩ := h
  have hcs : (Value.slice a n c).cells.toList = [.slice a n c] := rfl
  rw [hcs] at h
  rcases open_slice_pairs Try.underlying22 Try.underlying24 (by kernel_rfl) rfl rfl (by kernel_rfl) (by kernel_rfl) h with ⟨e, _⟩ | ⟨ad, len, cap, m, n0, V0, V1, D0, D1, P0, P1, e, hb, hl, hm, hmm, _, hx⟩
  · simp at e
    obtain ⟨rfl, rfl, rfl⟩ := e
    exact ⟨none, 0, [], rfl, Nat.le_refl _, ⟨by simp, by simp, by simp⟩, by intro x hx; cases hx⟩
  · simp at e
    obtain ⟨rfl, rfl, rfl⟩ := e
    have hlm : n ≤ m := by rw [hmm]; split <;> omega
    have each : ∀ i, i < n → ∃ q : Int × Int, (V0 i = .int .i64 q.1 ∧ V1 i = .int .i64 q.2) ∧ Go.IntKind.i64.min ≤ q.1 ∧ q.1 ≤ Go.IntKind.i64.max ∧ Go.IntKind.i64.min ≤ q.2 ∧ q.2 ≤ Go.IntKind.i64.max := by
      intro i hi
      obtain ⟨_, _, h0, h1⟩ := hx i (by omega)
      obtain ⟨x, e0, _, w0⟩ := DataW.trod_int Try.underlying3 h0
      obtain ⟨y, e1, _, w1⟩ := DataW.trod_int Try.underlying3 h1
      simp at e0 e1
      have b0 := (Go.Lit.wf_int_iff _ _).1 w0
      have b1 := (Go.Lit.wf_int_iff _ _).1 w1
      exact ⟨(x, y), ⟨e0, e1⟩, b0.1, b0.2, b1.1, b1.2⟩
    obtain ⟨q, hq⟩ := choose_lt each
    refine ⟨some ad, c, (List.range n).map fun i => ⟨(q i).1, (q i).2⟩, by simp, by simpa using hl, ?_, ?_⟩
    · refine ⟨rfl, ?_, fun _ => ⟨ad, rfl, fun j p hp => ?_⟩⟩
      · have : c ≤ 9223372036854775807 := hm
        simp; omega
      · have hj : j < n := by have := (List.getElem?_eq_some_iff.1 hp).1; simpa using this
        rw [List.getElem?_map, List.getElem?_range hj] at hp
        obtain rfl := Option.some.inj hp
        refine ⟨_, rfl, k24_mk w _, ?_⟩
        obtain ⟨h0, h1, _, _⟩ := hx j (by omega)
        rw [(hq j hj).1.1] at h0
        rw [(hq j hj).1.2] at h1
        intro i u hu
        match i, hu with
        | 0, hu => obtain rfl := Option.some.inj hu; exact h0
        | 1, hu => obtain rfl := Option.some.inj hu; exact h1
        | i + 2, hu => simp at hu
    · intro x hx'
      obtain ⟨i, hi, rfl⟩ := List.mem_map.1 hx'
      exact (hq i (List.mem_range.1 hi)).2
end Go.Proofs.Ythdieelceafidaa.X
