/- What is sent stands in its order: the packets of those rows that are short enough. -/
import Derived.Test.YtgknafhpfghbjaaModel
set_option linter.unusedVariables false
set_option linter.unusedSimpArgs false
namespace Go.Proofs.Ytgknafhpfghbjaa.X
open Go.RowKit Go.Proofs.Ytgknafhpfghbjaa.B Go.Proofs.Ytgknafhpfghbjaa

def fits (l : List (List Int)) (j : Nat) : Bool := decide ((l.getD j []).length ≤ 32768)
def pk (tt : Nat → Int) (l : List (List Int)) (j : Nat) : S32 := ⟨(j : Int), tt j, l.getD j []⟩
/-- The packets of the rows a tt a + n - 1. -/
def keep (tt : Nat → Int) (l : List (List Int)) (a n : Nat) : List S32 := ((List.range' a n).filter (fits l)).map (pk tt l)
theorem keep_nil (tt : Nat → Int) (l : List (List Int)) (a : Nat) : keep tt l a 0 = [] := rfl
theorem keep_len (tt : Nat → Int) (l : List (List Int)) (a n : Nat) : (keep tt l a n).length ≤ n := by
  unfold keep
  rw [List.length_map]
  have := List.length_filter_le (fits l) (List.range' a n)
  simpa using this
theorem keep_snoc_yes (tt : Nat → Int) {l : List (List Int)} (n : Nat) (h : (l.getD n []).length ≤ 32768) : keep tt l 0 (n + 1) = keep tt l 0 n ++ [pk tt l n] := by
  unfold keep
  have hf : fits l n = true := decide_eq_true h
  rw [List.range'_concat, List.filter_append, List.map_append]
  simp [List.filter_cons, hf]
theorem keep_snoc_no (tt : Nat → Int) {l : List (List Int)} (n : Nat) (h : 32768 < (l.getD n []).length) : keep tt l 0 (n + 1) = keep tt l 0 n := by
  unfold keep
  have hf : fits l n = false := decide_eq_false (by omega)
  rw [List.range'_concat, List.filter_append, List.map_append]
  simp [List.filter_cons, hf]
theorem keep_cons_yes (tt : Nat → Int) {l : List (List Int)} (a n : Nat) (h : (l.getD a []).length ≤ 32768) : keep tt l a (n + 1) = pk tt l a :: keep tt l (a + 1) n := by
  unfold keep
  have hf : fits l a = true := decide_eq_true h
  rw [List.range'_succ]
  simp [List.filter_cons, hf]
theorem keep_cons_no (tt : Nat → Int) {l : List (List Int)} (a n : Nat) (h : 32768 < (l.getD a []).length) : keep tt l a (n + 1) = keep tt l (a + 1) n := by
  unfold keep
  have hf : fits l a = false := decide_eq_false (by omega)
  rw [List.range'_succ]
  simp [List.filter_cons, hf]
theorem keep_mem (tt : Nat → Int) {l : List (List Int)} {a n : Nat} {x : S32} (h : x ∈ keep tt l a n) : ∃ j, a ≤ j ∧ j < a + n ∧ x = pk tt l j ∧ (l.getD j []).length ≤ 32768 := by
  unfold keep at h
  obtain ⟨j, hj, rfl⟩ := List.mem_map.1 h
  obtain ⟨h1, h2⟩ := List.mem_filter.1 hj
  have h3 := List.mem_range'_1.1 h1
  exact ⟨j, h3.1, h3.2, rfl, of_decide_eq_true h2⟩
/-- The k-th send. -/
theorem send_keep (tt : Nat → Int) (l : List (List Int)) (k : Nat) (hk : k < 256) (t : Int) (ht : t = tt k) (ds : List Int) (hd : ds = l.getD k []) : sendL (keep tt l 0 k) (k : Int) t ds = keep tt l 0 (k + 1) ∧ sendE (keep tt l 0 k) ds = if 32768 < ds.length then 1 else 0 := by
  subst ht hd
  have hlen := keep_len tt l 0 k
  have hne : ¬ (keep tt l 0 k).length = 256 := by omega
  unfold sendL sendE
  by_cases h : 32768 < (l.getD k []).length
  · rw [if_pos h, if_pos h, if_pos h, keep_snoc_no tt k h]
    exact ⟨rfl, rfl⟩
  · rw [if_neg h, if_neg h, if_neg h, if_neg hne, if_neg hne, keep_snoc_yes tt k (by omega)]
    exact ⟨rfl, rfl⟩
end Go.Proofs.Ytgknafhpfghbjaa.X
