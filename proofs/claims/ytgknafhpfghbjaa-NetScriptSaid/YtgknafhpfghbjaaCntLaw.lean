/- The plain laws behind NetCounts, and what heavy says. -/
import Derived.Test.YtgknafhpfghbjaaIMap
set_option linter.unusedVariables false
set_option linter.unusedSimpArgs false
namespace Go.Proofs.Ytgknafhpfghbjaa.X
open Go.RowKit Go.Proofs.Ytgknafhpfghbjaa.B Go.Proofs.Ytgknafhpfghbjaa Go.Proofs.YtgknafhpfghbjaaW.PrintWords Go.Proofs.YtgknafhpfghbjaaW.PrintLast Go.Proofs.YtgknafhpfghbjaaW.PrintMore

theorem heavy_l0 (s : List S40) (hl : s.length ≤ 140737488355328) : ∀ (d : Nat) (x4 x3 : Int), 0 ≤ x4 → x4 ≤ (s.length : Int) → (s.length : Int) - x4 = (d : Int) → 0 ≤ x3 → x3 ≤ 140737490000000 →
    ∃ r, thermographlaw02_heavy.l0 (d + 1) s x3 x4 = some r ∧ (r = false → s.length ≤ 2048 ∧ x3 ≤ 262144 ∧ ∀ j : Int, x4 ≤ j → j < (s.length : Int) → (rd_T40 s j).f3.length ≤ 262144) := by
  intro d
  induction d with
  | zero =>
    intro x4 x3 h0 h1 h2 h3 h4
    have hx : ¬ x4 < (s.length : Int) := by omega
    simp only [thermographlaw02_heavy.l0, if_neg hx]
    by_cases h : x3 > 262144
    · exact ⟨true, by rw [if_pos h], fun h => by cases h⟩
    · refine ⟨_, by rw [if_neg h], fun hr => ?_⟩
      have : ¬ (s.length : Int) > 2048 := of_decide_eq_false hr
      exact ⟨by omega, by omega, fun j hj1 hj2 => by omega⟩
  | succ d ih =>
    intro x4 x3 h0 h1 h2 h3 h4
    have hx : x4 < (s.length : Int) := by omega
    rw [thermographlaw02_heavy.l0, if_pos hx]
    by_cases hle : x3 ≤ 262144
    · rw [if_pos hle, if_pos h0]
      have hm : mn ((rd_T40 s x4).f3.length : Int) 1048576 ≤ 1048576 ∧ 0 ≤ mn ((rd_T40 s x4).f3.length : Int) 1048576 := by unfold mn; split <;> omega
      have e1 : wrap64 (x3 + mn ((rd_T40 s x4).f3.length : Int) 1048576) = x3 + mn ((rd_T40 s x4).f3.length : Int) 1048576 := IntWalk.wrap64_in _ ⟨by omega, by omega⟩
      have e2 : wrap64 (x4 + 1) = x4 + 1 := IntWalk.wrap64_in _ ⟨by omega, by omega⟩
      rw [e1, e2]
      obtain ⟨r, hr, hp⟩ := ih (x4 + 1) (x3 + mn ((rd_T40 s x4).f3.length : Int) 1048576) (by omega) (by omega) (by omega) (by omega) (by omega)
      refine ⟨r, hr, fun h => ?_⟩
      obtain ⟨p1, p2, p3⟩ := hp h
      refine ⟨p1, by omega, fun j hj1 hj2 => ?_⟩
      by_cases hj : j = x4
      · subst hj
        have hmm : mn ((rd_T40 s j).f3.length : Int) 1048576 ≤ 262144 := by omega
        unfold mn at hmm
        split at hmm <;> omega
      · exact p3 j (by omega) hj2
    · rw [if_neg hle, if_pos (by omega)]
      exact ⟨true, rfl, fun h => by cases h⟩
theorem heavy_says (s : List S40) (hl : s.length ≤ 140737488355328) : ∃ k r, thermographlaw02_heavy.f k s = some r ∧ (r = false → s.length ≤ 2048 ∧ ∀ j : Nat, j < s.length → (s.getD j z40).f3.length ≤ 262144) := by
  obtain ⟨r, hr, hp⟩ := heavy_l0 s hl s.length 0 (s.length : Int) (by omega) (by omega) (by omega) (by omega) (by omega)
  refine ⟨s.length + 1, r, hr, fun h => ?_⟩
  obtain ⟨p1, _, p3⟩ := hp h
  refine ⟨p1, fun j hj => ?_⟩
  have := p3 (j : Int) (by omega) (by omega)
  simpa [rd_T40] using this
theorem heavy_calls (A : Option Addr) (c : Nat) (s : List S40) (w : World) (hC : Kd.C k40 w A s.length s) (hc : s.length ≤ c) (hl : s.length ≤ 140737488355328) :
    ∃ r, (r = false → s.length ≤ 2048 ∧ ∀ j : Nat, j < s.length → (s.getD j z40).f3.length ≤ 262144) ∧ Calls Try.prog 12 #[.slice A s.length c] w fun e w' => e = .returned (.bool r) ∧ Below w.heap.size w w' := by
  obtain ⟨k, r, hr, hp⟩ := heavy_says s hl
  exact ⟨r, hp, thermographlaw02_heavy.calls k A c s r w hC hc hr⟩
theorem at_step {w : World} {A : Option Addr} {s : List S40} (h : Kd.C k40 w A s.length s) (k : Nat) (hk : k < s.length) : ∃ ad A3 c3, A = some ad ∧ w.cell? (ad.add (k * 4)) = some (.int .i64 (s.getD k z40).f0) ∧ w.cell? ⟨(ad.add (k * 4)).block, (ad.add (k * 4)).off + 1, none⟩ = some (.int .i64 (s.getD k z40).f1) ∧ w.cell? ⟨(ad.add (k * 4)).block, (ad.add (k * 4)).off + 2, none⟩ = some (.int .i64 (s.getD k z40).f2) ∧ w.cell? ⟨(ad.add (k * 4)).block, (ad.add (k * 4)).off + 3, none⟩ = some (.slice A3 (s.getD k z40).f3.length c3) ∧ (s.getD k z40).f3.length ≤ c3 ∧ (Kd.int .u8).C w A3 (s.getD k z40).f3.length (s.getD k z40).f3 := by
  obtain ⟨ad, A3, c3, e, h0, h1, h2, h3, h4, h5⟩ := at_T40 h (k : Int) (by omega) (by omega)
  exact ⟨ad, A3, c3, e, h0, h1, h2, h3, h4, h5⟩
theorem erase_perm {α : Type} : ∀ (l : List α) (j : Nat) (h : j < l.length), (l[j] :: l.eraseIdx j).Perm l
  | a :: r, 0, _ => List.Perm.refl _
  | a :: r, j + 1, h => by
    simp only [List.getElem_cons_succ, List.eraseIdx_cons_succ]
    exact (List.Perm.swap a _ _).trans ((erase_perm r j (by simpa using h)).cons a)
/-- How many packets say q. -/
def cnt (xs : List S32) (q : Int) : Int := ((xs.filter (fun x => x.f0 == q)).length : Int)
/-- What holds when i steps have been done. -/
structure CntI (s : List S40) (xs : List S32) (f : Int → Int) : Prop where
  mem : ∀ x ∈ xs, ∃ j, j < s.length ∧ x = ⟨(j : Int), 7, (s.getD j z40).f3⟩
  eq : ∀ q, f q = cnt xs q
theorem cnt_start (s : List S40) : CntI s [] (fun _ => 0) := ⟨(fun _ h => absurd h List.not_mem_nil), fun _ => rfl⟩
theorem cnt_bounds (xs : List S32) (q : Int) : 0 ≤ cnt xs q ∧ cnt xs q ≤ (xs.length : Int) := by
  unfold cnt
  have := List.length_filter_le (fun x : S32 => x.f0 == q) xs
  omega
theorem cnt_snoc (xs : List S32) (x : S32) (q : Int) : cnt (xs ++ [x]) q = cnt xs q + if x.f0 = q then 1 else 0 := by
  unfold cnt
  rw [List.filter_append, List.length_append]
  by_cases h : x.f0 = q
  · simp [List.filter_cons, h]
  · simp [List.filter_cons, h]
theorem cnt_erase (xs : List S32) (j : Nat) (hj : j < xs.length) (q : Int) : cnt xs q = cnt (xs.eraseIdx j) q + if xs[j].f0 = q then 1 else 0 := by
  unfold cnt
  have h := ((erase_perm xs j hj).filter (fun x : S32 => x.f0 == q)).length_eq
  rw [← h]
  by_cases hq : xs[j].f0 = q
  · simp [List.filter_cons, hq]
  · simp [List.filter_cons, hq]
theorem CntI.snoc {s : List S40} {xs : List S32} {f : Int → Int} (h : CntI s xs f) (x : S32) (hx : ∃ j, j < s.length ∧ x = ⟨(j : Int), 7, (s.getD j z40).f3⟩) : CntI s (xs ++ [x]) (upd f x.f0 (f x.f0 + 1)) := by
  refine ⟨fun y hy => ?_, fun q => ?_⟩
  · rcases List.mem_append.1 hy with hy | hy
    · exact h.mem y hy
    · rw [List.mem_singleton.1 hy]; exact hx
  · rw [cnt_snoc]
    unfold upd
    by_cases hq : q = x.f0
    · subst hq
      rw [if_pos rfl, if_pos rfl, h.eq]
    · rw [if_neg hq, if_neg (fun e => hq e.symm), h.eq]
      omega
theorem CntI.erase {s : List S40} {xs : List S32} {f : Int → Int} (h : CntI s xs f) (j : Nat) (hj : j < xs.length) : CntI s (xs.eraseIdx j) (upd f xs[j].f0 (f xs[j].f0 - 1)) ∧ 1 ≤ f xs[j].f0 := by
  have hc := cnt_erase xs j hj
  refine ⟨⟨fun y hy => h.mem y (List.mem_of_mem_eraseIdx hy), fun q => ?_⟩, ?_⟩
  · unfold upd
    by_cases hq : q = xs[j].f0
    · subst hq
      have := hc xs[j].f0
      rw [if_pos rfl] at this
      rw [if_pos rfl, h.eq]
      omega
    · have := hc q
      rw [if_neg (fun e => hq e.symm)] at this
      rw [if_neg hq, h.eq]
      omega
  · have := hc xs[j].f0
    rw [if_pos rfl] at this
    rw [h.eq, this]
    have := (cnt_bounds (xs.eraseIdx j) xs[j].f0).1
    omega
end Go.Proofs.Ytgknafhpfghbjaa.X
