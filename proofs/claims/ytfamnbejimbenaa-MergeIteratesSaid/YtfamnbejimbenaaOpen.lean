/- Arguments that are slices of points, or of slices of points, opened: their elements as plain points. -/
import Derived.Test.YtfamnbejimbenaaFlat
import Derived.Deep.Slices
import Derived.ChangeArms
import Derived.ChangeOld
import Derived.DataShut
import Derived.SizedLaws
namespace Go.Proofs.Ytfamnbejimbenaa.X
open Go.RowKit Go.Proofs.Ytfamnbejimbenaa.G Go.ChangeShapes Go.WideShapes Go.Proofs.YtfamnbejimbenaaW.PrintWords

section
variable {H : Type} {enc : TypeId × Value → H} {P : Program} {w : World} {base : Nat} {spare : Nat → Bool} {held : Bool}
theorem weightsAll_mem {e : TypeId} : ∀ {ds : List (DataW H)} {d : DataW H}, d ∈ ds → ∀ n ∈ d.weights P e, n ∈ DataW.weightsAll P e ds
  | d0 :: r, d, h, n, hn => by
    simp only [DataW.weightsAll, List.mem_append]
    rcases List.mem_cons.1 h with rfl | h
    · exact .inl hn
    · exact .inr (weightsAll_mem h n hn)
/-- What lies in cells of type e reads as a value of kind d that is fit. -/
def Opens (enc : TypeId × Value → H) (P : Program) (w : World) (base : Nat) (spare : Nat → Bool) (held : Bool) {α : Type} (d : Kd α) (e : TypeId) (Fit : α → Prop) : Prop :=
  ∀ (fuel : Nat) (cs : List Value) (x : DataW H × List MemPlace), DataW.trod enc P w base spare held fuel e cs = some x → (∀ n ∈ x.1.weights P e, n ≤ reachBytes) → ∃ y, d.K w y cs ∧ Fit y
theorem opens_int {e : TypeId} {k : IntKind} (he : P.underlying e = some (.int k)) : Opens enc P w base spare held (Kd.int k) e (fun n => (Lit.int k n).wf = true) := by
  intro fuel cs x h _
  obtain ⟨n, rfl, _, hw⟩ := DataW.trod_int he h
  exact ⟨n, rfl, hw⟩
theorem opens_string {e : TypeId} (he : P.underlying e = some .string) : Opens enc P w base spare held Kd.string e (fun s => s.size ≤ reachBytes) := by
  intro fuel cs x h hw
  obtain ⟨s, rfl, rfl, _⟩ := DataW.trod_string he h
  refine ⟨s, rfl, ?_⟩
  have := hw s.data.toList.length (by simp [DataW.weights])
  simpa using this
theorem opens_slice {α : Type} [Inhabited α] {d : Kd α} {t e : TypeId} {B : Nat} {Fit : α → Prop} (ht : P.underlying t = some (.slice e)) (ce : P.cellsOf e = d.sz) (hB : P.bytesOf e = B) (hd : Opens enc P w base spare held d e Fit) :
    Opens enc P w base spare held (Kd.slice e d) t (fun xs => xs.length * B ≤ reachBytes ∧ ∀ y ∈ xs, Fit y) := by
  intro fuel cs x h hw
  rcases Go.Deep.open_slice ht h with ⟨rfl, rfl⟩ | ⟨a, len, cap, m, n, D, Pl, rfl, hb, hl, hm, hmm, rfl, hx⟩
  · exact ⟨[], ⟨none, 0, rfl, Nat.le_refl _, ⟨rfl, by simp, by simp⟩⟩, by simp, by simp⟩
  · have hlm : len ≤ m := by rw [hmm]; split <;> omega
    have hwt : len * B ≤ reachBytes ∧ ∀ i, i < len → ∀ n ∈ (D i).weights P e, n ≤ reachBytes := by
      constructor
      · have := hw _ (by simp only [DataW.weights, ht]; exact List.mem_cons_self)
        rw [hB] at this
        refine Nat.le_trans (Nat.mul_le_mul_right _ ?_) this
        simp
      · intro i hi n hn
        refine hw n ?_
        simp only [DataW.weights, ht]
        exact List.mem_cons_of_mem _ (List.mem_append_left _ (weightsAll_mem (List.mem_map.2 ⟨i, List.mem_range.2 hi, rfl⟩) n hn))
    have each : ∀ i, i < len → ∃ y, (∃ c, c.length = d.sz ∧ d.K w y c ∧ ∀ j u, c[j]? = some u → w.cell? (a.add (i * d.sz + j)) = some u) ∧ Fit y := by
      intro i hi
      obtain ⟨c, h1, h2⟩ := hx i (by omega)
      rw [ce] at h1
      obtain ⟨_, hlen, hcell⟩ := World.cells?_some h1
      obtain ⟨y, hK, hF⟩ := hd _ _ _ h2 (hwt.2 i hi)
      refine ⟨y, ⟨c, hlen, hK, fun j u hu => ?_⟩, hF⟩
      have hj : j < d.sz := by rw [← hlen]; exact (List.getElem?_eq_some_iff.1 hu).1
      have := hcell j hj
      rw [Go.Deep.add_add, hu] at this
      exact this
    obtain ⟨q, hq⟩ := Go.Deep.choose_lt each
    refine ⟨(List.range len).map q, ⟨some a, cap, by simp, by simpa using hl, ⟨rfl, ?_, fun _ => ⟨a, rfl, fun j p hp => ?_⟩⟩⟩, by simpa using hwt.1, fun y hy => ?_⟩
    · have : cap ≤ 9223372036854775807 := hm
      simp; omega
    · have hj : j < len := by have := (List.getElem?_eq_some_iff.1 hp).1; simpa using this
      rw [List.getElem?_map, List.getElem?_range hj] at hp
      obtain rfl := Option.some.inj hp
      exact (hq j hj).1
    · obtain ⟨i, hi, rfl⟩ := List.mem_map.1 hy
      exact (hq i (List.mem_range.1 hi)).2
/-- An argument that is a slice, opened. -/
theorem open_arg {α : Type} {d : Kd α} {t e : TypeId} {Fit : List α → Prop} (ho : Opens enc P w base spare held (Kd.slice e d) t Fit) {v : Value} {dd : DataW H} {pp : List MemPlace} {ts : List TypeId} {ds : List (DataW H)} (j : Nat)
    (hsz : (DataW.weightsEach P ts ds).all (· ≤ reachBytes) = true) (ht : ts[j]? = some t) (hd : ds[j]? = some dd) (h : DataW.Trod enc P w base spare held t v dd pp) (hv : ∃ a n c, v = .slice a n c) :
    ∃ (A : Option Addr) (c : Nat) (xs : List α), v = .slice A xs.length c ∧ xs.length ≤ c ∧ Kd.C d w A xs.length xs ∧ Fit xs := by
  obtain ⟨a, n, c, rfl⟩ := hv
  obtain ⟨m, h⟩ := h
  have hcs : (Value.slice a n c).cells.toList = [.slice a n c] := rfl
  rw [hcs] at h
  obtain ⟨xs, ⟨A, c', e1, hl, hC⟩, hF⟩ := ho _ _ _ h (fun n hn => by
    have := List.all_eq_true.1 hsz n (DataW.weights_mem_each ht hd n hn)
    simpa using this)
  simp only [List.cons.injEq, Value.slice.injEq, and_true] at e1
  obtain ⟨rfl, rfl, rfl⟩ := e1
  exact ⟨_, _, xs, rfl, hl, hC, hF⟩
end
section
variable {H : Type} {enc : TypeId × Value → H} {w : World} {base : Nat} {spare : Nat → Bool} {held : Bool}
/-- Each number is of its kind. -/
def Fits (x : S24) : Prop := (Lit.int .i64 x.f0).wf = true ∧ (Lit.int .u64 x.f1).wf = true ∧ (Lit.int .u64 x.f2).wf = true
theorem opens_point : Opens enc Try.prog w base spare held k24 24 Fits := by
  intro fuel cs x h _
  obtain ⟨xs, k, _, _, hlen, hxl, hf⟩ := DataW.trod_struct Try.underlying24 h
  have hc : Try.prog.cellsOf 24 = 3 := by kernel_rfl
  rw [hc] at hlen
  match xs, hxl, cs, hlen with
  | [y0, y1, y2], _, [v0, v1, v2], _ =>
    have g0 := hf 0 _ rfl
    have g1 := hf 1 _ rfl
    have g2 := hf 2 _ rfl
    have c3 : Try.prog.cellsOf 3 = 1 := by kernel_rfl
    have c22 : Try.prog.cellsOf 22 = 1 := by kernel_rfl
    simp [c3, c22] at g0 g1 g2
    obtain ⟨n0, e0, _, w0⟩ := DataW.trod_int Try.underlying3 g0
    obtain ⟨n1, e1, _, w1⟩ := DataW.trod_int Try.underlying22 g1
    obtain ⟨n2, e2, _, w2⟩ := DataW.trod_int Try.underlying22 g2
    simp at e0 e1 e2
    subst e0 e1 e2
    exact ⟨⟨n0, n1, n2⟩, k24_mk w _, w0, w1, w2⟩
theorem opens_points : Opens enc Try.prog w base spare held (Kd.slice 24 k24) 29 (fun xs => xs.length * 24 ≤ reachBytes ∧ ∀ y ∈ xs, Fits y) :=
  opens_slice (B := 24) Try.underlying29 (by kernel_rfl) (by kernel_rfl) opens_point
theorem opens_lists : Opens enc Try.prog w base spare held (Kd.slice 29 (Kd.slice 24 k24)) 27 (fun l => l.length * 24 ≤ reachBytes ∧ ∀ xs ∈ l, xs.length * 24 ≤ reachBytes ∧ ∀ y ∈ xs, Fits y) :=
  opens_slice (B := 24) Try.underlying27 (by kernel_rfl) (by kernel_rfl) opens_points
end
end Go.Proofs.Ytfamnbejimbenaa.X
