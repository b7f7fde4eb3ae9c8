/- DigestSums as a plain fact on numbers and lists: both programs' sums are one. -/
import Derived.Test.YtcppajpkllfpmaaGx2
namespace Go.Proofs.Ytcppajpkllfpmaa.Pure
open Go.RowKit Go.Proofs.Ytcppajpkllfpmaa.G Go.Proofs.Ytcppajpkllfpmaa.X Go.Proofs.YtcppajpkllfpmaaW.PrintWords Go.Proofs.YtcppajpkllfpmaaW.PrintLast Go.Proofs.YtcppajpkllfpmaaW.PrintMore

theorem taken (b : List Int) : (([] : List Int) ++ b ++ [77]).take ((b.length : Int)).toNat = b := by
  rw [Int.toNat_natCast, List.nil_append]
  exact List.take_left
theorem behind (b : List Int) : rd (([] : List Int) ++ b ++ [77]) (b.length : Int) = 77 := by
  rw [List.nil_append]
  simp [rd]
theorem sizes (b : List Int) : (([] : List Int) ++ b ++ [77]).length = b.length + 1 := by
  rw [List.nil_append, List.length_append]; rfl
theorem sizes1 (b : List Int) : (([] : List Int) ++ b).length = b.length := by rw [List.nil_append]
theorem sums_of (b : List Int) (s m a : Int) (hb : b.length ≤ 262144) (h1 : digest_Murmur.f b s = some m) (h2 : digest_Adler.f b = some a) : thermographlaw04_DigestSums.f b s = some true := by
  have h3 : thermographref04_Murmur.f b s = some m := h1
  have h4 : thermographref04_Adler.f b = some a := h2
  unfold thermographlaw04_DigestSums.f
  rw [if_neg (by omega), X.some_bind, if_pos (by rw [List.length_nil]; omega), X.some_bind, if_pos (by rw [sizes1]; omega), X.some_bind, if_pos (by omega), if_pos (by rw [sizes]; omega), taken, h2, h4, X.some_bind, X.some_bind, if_pos rfl, h1, h3, X.some_bind, X.some_bind, if_pos rfl,
    if_pos (by rw [sizes]; omega), behind, if_pos rfl, beq_self_eq_true]
theorem DigestSums : thermographlaw04_DigestSums.Pure := by
  intro b s _ hb hwb hs
  have bs := bounds_u32 hs
  by_cases h1 : (b.length : Int) > 262144
  · unfold thermographlaw04_DigestSums.f
    rw [if_pos h1]
  have fb : fits b := ⟨bytesB_of (X.bytes_of_wf hwb), by omega⟩
  exact sums_of b s _ _ (by omega) (if_pos ⟨fb.1, by omega, by omega, fb.2⟩) (if_pos fb)

end Go.Proofs.Ytcppajpkllfpmaa.Pure
