/- Plain facts on Adler's two sums: the step by step form and the form over parts. -/
import Derived.Laws.BitsLemmas
namespace Go.Proofs.Ytcppajpkllfpmaa.Ad

/-- The sums of bytes, each step reduced. -/
def adl : List Int → Int → Int → Int × Int
  | [], x, y => (x, y)
  | c :: l, x, y => adl l ((x + c) % 65521) ((y + (x + c) % 65521) % 65521)
/-- The sums of bytes, no step reduced. -/
def raw : List Int → Int → Int → Int × Int
  | [], x, y => (x, y)
  | c :: l, x, y => raw l (x + c) (y + (x + c))
def Bytes (l : List Int) : Prop := ∀ c ∈ l, 0 ≤ c ∧ c < 256
def total : List Int → Int
  | [] => 0
  | c :: l => c + total l

theorem adl_append (a b : List Int) (x y : Int) : adl (a ++ b) x y = adl b (adl a x y).1 (adl a x y).2 := by
  induction a generalizing x y with
  | nil => rfl
  | cons c a ih => exact ih _ _

theorem raw_mod (l : List Int) (x y : Int) : adl l (x % 65521) (y % 65521) = ((raw l x y).1 % 65521, (raw l x y).2 % 65521) := by
  induction l generalizing x y with
  | nil => rfl
  | cons c l ih =>
    have e1 : (x % 65521 + c) % 65521 = (x + c) % 65521 := by omega
    have e2 : (y % 65521 + (x + c) % 65521) % 65521 = (y + (x + c)) % 65521 := by omega
    show adl l ((x % 65521 + c) % 65521) ((y % 65521 + (x % 65521 + c) % 65521) % 65521) = _
    rw [e1, e2]
    exact ih _ _

theorem adl_range (l : List Int) (x y : Int) (hx : 0 ≤ x) (hx1 : x < 65521) (hy : 0 ≤ y) (hy1 : y < 65521) :
    (0 ≤ (adl l x y).1 ∧ (adl l x y).1 < 65521) ∧ 0 ≤ (adl l x y).2 ∧ (adl l x y).2 < 65521 := by
  induction l generalizing x y with
  | nil => exact ⟨⟨hx, hx1⟩, hy, hy1⟩
  | cons c l ih => exact ih _ _ (by omega) (by omega) (by omega) (by omega)

theorem adl_fst (l : List Int) (x y : Int) (hx : 0 ≤ x) (hx1 : x < 65521) : (adl l x y).1 = (x + total l) % 65521 := by
  induction l generalizing x y with
  | nil => simp only [adl, total]; omega
  | cons c l ih =>
    have := ih ((x + c) % 65521) ((y + (x + c) % 65521) % 65521) (by omega) (by omega)
    simp only [adl, total]
    rw [this]; omega

theorem total_set (l : List Int) (i : Nat) (v : Int) (h : i < l.length) : total (l.set i v) = total l - l.getD i 0 + v := by
  induction l generalizing i with
  | nil => simp at h
  | cons c l ih =>
    cases i with
    | zero => simp [total]; omega
    | succ i =>
      have := ih i (by simpa using h)
      simp only [List.set_cons_succ, total, List.getD_cons_succ]
      omega

theorem bytes_drop {l : List Int} (h : Bytes l) (n : Nat) : Bytes (l.drop n) := fun c hc => h c (List.mem_of_mem_drop hc)
theorem bytes_take {l : List Int} (h : Bytes l) (n : Nat) : Bytes (l.take n) := fun c hc => h c (List.mem_of_mem_take hc)
theorem bytes_at {l : List Int} (h : Bytes l) (i : Nat) (hi : i < l.length) : 0 ≤ l.getD i 0 ∧ l.getD i 0 < 256 := by
  rw [List.getD_eq_getElem?_getD, List.getElem?_eq_getElem hi]
  exact h _ (List.getElem_mem hi)
theorem bytes_set {l : List Int} (h : Bytes l) (i : Nat) (v : Int) (h0 : 0 ≤ v) (h1 : v < 256) : Bytes (l.set i v) := by
  intro c hc
  rcases List.mem_or_eq_of_mem_set hc with hc | rfl
  · exact h c hc
  · exact ⟨h0, h1⟩
theorem bytes_append {a b : List Int} (ha : Bytes a) (hb : Bytes b) : Bytes (a ++ b) := by
  intro c hc
  rcases List.mem_append.1 hc with h | h
  · exact ha c h
  · exact hb c h
theorem drop_at (l : List Int) (i : Nat) (h : i < l.length) : l.drop i = l.getD i 0 :: l.drop (i + 1) := by
  rw [List.drop_eq_getElem_cons h, List.getD_eq_getElem?_getD, List.getElem?_eq_getElem h]; rfl

/-- The word of two sums. -/
theorem or_join (x y : Int) (hx : 0 ≤ x) (hx1 : x < 65536) (hy : 0 ≤ y) (hy1 : y < 65536) : bits .or .u32 (y * 65536) x = y * 65536 + x :=
  bits_join .u32 32 (by decide) (fun n h0 h1 => by rw [IntKind.wrap_u32]; omega) 16 _ _ (by omega) (by omega) (by omega) hx (by omega) (by omega)

end Go.Proofs.Ytcppajpkllfpmaa.Ad
