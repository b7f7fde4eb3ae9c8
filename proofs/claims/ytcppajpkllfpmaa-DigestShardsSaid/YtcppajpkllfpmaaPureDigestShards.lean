/- DigestShards as a plain fact on numbers and lists: both Shards are one function, and it answers below the number of shards. -/
import Derived.Test.YtcppajpkllfpmaaGx1
namespace Go.Proofs.Ytcppajpkllfpmaa.Pure
open Go.RowKit Go.Proofs.Ytcppajpkllfpmaa.G Go.Proofs.Ytcppajpkllfpmaa.X Go.Proofs.YtcppajpkllfpmaaW.PrintWords Go.Proofs.YtcppajpkllfpmaaW.PrintLast Go.Proofs.YtcppajpkllfpmaaW.PrintMore

theorem DigestShards : thermographlaw04_DigestShards.Pure := by
  intro s n hs hn
  have hn2 := bounds_i64 hn
  unfold thermographlaw04_DigestShards.f
  by_cases h : (s.size : Int) > 65536
  · rw [if_pos h]
  · rw [if_neg h]
    have e : digest_Shard.f s n = some (shard s n) := if_pos ⟨hs, by omega⟩
    have e2 : thermographref04_Shard.f s n = some (shard s n) := e
    rw [e, e2]
    simp only [X.some_bind, if_true]
    by_cases hn1 : n < 1
    · have h0 : shard s n = 0 := if_pos hn1
      rw [h0]
      simp
    · have h0 : shard s n = Mur.murmur (bytesOf s) 0 % n := if_neg hn1
      have h1 := Int.emod_nonneg (Mur.murmur (bytesOf s) 0) (b := n) (by omega)
      have h2 := Int.emod_lt_of_pos (Mur.murmur (bytesOf s) 0) (b := n) (by omega)
      rw [h0, if_pos h1]
      by_cases hz : Mur.murmur (bytesOf s) 0 % n = 0
      · rw [if_pos hz]
      · rw [if_neg hz, decide_eq_true h2]

end Go.Proofs.Ytcppajpkllfpmaa.Pure
