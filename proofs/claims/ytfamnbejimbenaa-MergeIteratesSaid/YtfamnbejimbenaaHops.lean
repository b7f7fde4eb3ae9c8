/- container/heap's Push, Pop, Fix, walked. -/
import Derived.Test.YtfamnbejimbenaaUp
import Derived.Test.YtfamnbejimbenaaDown
set_option linter.unusedVariables false
set_option linter.unusedSimpArgs false
namespace Go.Proofs.Ytfamnbejimbenaa.X
open Go.RowKit Go.Sort Go.Proofs.Ytfamnbejimbenaa.G Go.Proofs.YtfamnbejimbenaaW.PrintWords Go.Proofs.YtfamnbejimbenaaW.PrintLast Go.Proofs.YtfamnbejimbenaaW.PrintMore
theorem Upp.of {w w' : World} {B M g : Nat} {ls : List (List S24)} {v : Value} (h : Dnn w w' B M g ls v) : Upp w w' B M g ls v := ⟨h.hs, h.step⟩
/-- What heap.Pop leaves. -/
def popped (ls : List (List S24)) (n : Nat) : List (List S24) := (Hp.down [] ltH (n + 1) (Hp.sw [] ls 0 n) 0 n).dropLast
set_option maxHeartbeats 1000000 in
theorem pop33_calls {w : World} {B M g : Nat} {ls : List (List S24)} {v : Value} {us : List Value} (h : Hs w B M g ls v us) (hB : B ≤ w.heap.size) (hl : ls.length ≤ 1000000) (n : Nat) (hn : ls.length = n + 1) :
    Calls Try.prog 33 #[.iface 49 (.pointer (some ⟨g, 0, none⟩))] w fun e w' => (∃ u, e = .returned (.iface 29 u)) ∧ (∃ v' us', Hs w' B M g (popped ls n) v' us') ∧ Step B w w' := by
  have hm1 := m_len h.cell
  have hm2 := m_swap h.cell
  have hw1 : wrap64 (((n + 1 : Nat) : Int) - 1) = (n : Int) := by unfold wrap64; omega
  obtain ⟨A, c, rfl⟩ : ∃ A c, v = .slice A (n + 1) c := by
    rcases h.own.2 with ⟨_, h0⟩ | ⟨k, cap, cur, e1, _⟩
    · omega
    · exact ⟨_, _, by rw [hn] at e1; exact e1⟩
  have H := Aside0.mk h
  clear h
  go_enter Try.func33, Try.ntmps33
  go_wp2_with (refine (len70_calls _ _ _ _).mono ?_; rintro e w1 ⟨rfl, hw⟩; subst hw)
  refine (H.out.swap 0 n (by omega) (by omega)).mono ?_
  rintro e w2 ⟨rfl, ⟨us2, hs2⟩, hst2⟩
  have hlen2 : (Hp.sw [] ls 0 n).length = ls.length := Hp.sw_length _ _ _ _
  have hB2 := Nat.le_trans hB hst2.below.size
  clear hm1 hm2 hw1
  go_wp2_with fail
  refine (down_calls hs2 hB2 (by omega) 0 n (n + 1) (by omega) (by omega) (by omega) (by omega)).mono ?_
  rintro e w3 ⟨⟨b, rfl⟩, hd3⟩
  obtain ⟨us3, hs3⟩ := hd3.hs
  have hst3 := hd3.step
  have hlen3 : (Hp.down [] ltH (n + 1) (Hp.sw [] ls 0 n) 0 n).length = n + 1 := by rw [Hp.down_length]; omega
  have hne : (Hp.down [] ltH (n + 1) (Hp.sw [] ls 0 n) 0 n) ≠ [] := fun e => by rw [e] at hlen3; cases hlen3
  have hsplit := List.dropLast_concat_getLast hne
  rw [← hsplit] at hs3
  have hm3 := m_pop ⟨g, 0, none⟩ w3
  go_wp2_with fail
  refine (hs3.pop (by rw [List.length_dropLast, hlen3]; omega)).mono ?_
  rintro e w4 ⟨⟨u, rfl⟩, ⟨v4, us4, hs4⟩, hst4⟩
  go_wp2_with fail
  go_ret
  exact ⟨⟨_, rfl⟩, ⟨_, _, hs4⟩, (hst2.trans hst3).trans hst4⟩
end Go.Proofs.Ytfamnbejimbenaa.X
