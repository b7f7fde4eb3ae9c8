/- container/heap's Push and Fix, walked. -/
import Derived.Test.YtfamnbejimbenaaUp
import Derived.Test.YtfamnbejimbenaaDown
import Derived.Test.YtfamnbejimbenaaAdd
set_option linter.unusedVariables false
set_option linter.unusedSimpArgs false
namespace Go.Proofs.Ytfamnbejimbenaa.X
open Go.RowKit Go.Sort Go.Proofs.Ytfamnbejimbenaa.G Go.Proofs.YtfamnbejimbenaaW.PrintWords Go.Proofs.YtfamnbejimbenaaW.PrintLast Go.Proofs.YtfamnbejimbenaaW.PrintMore
/-- What heap.Push leaves. -/
def pushed (ls : List (List S24)) (x : List S24) : List (List S24) := Hp.up [] ltH (ls.length + 1) (ls ++ [x]) ls.length
set_option maxHeartbeats 1000000 in
theorem push23_calls {w : World} {B M g : Nat} {ls : List (List S24)} {v : Value} {us : List Value} (h : Hs w B M g ls v us) (hB : B ≤ w.heap.size) (hl : ls.length < 1000000) (A : Option Addr) (n c : Nat) (x : List S24) (hu : Hv w B M (.slice A n c) x) (hx : x ≠ []) :
    Calls Try.prog 23 #[.iface 49 (.pointer (some ⟨g, 0, none⟩)), .iface 29 (.slice A n c)] w fun e w' => e = .returned (.tuple #[]) ∧ (∃ v' us', Hs w' B M g (pushed ls x) v' us') ∧ Step B w w' := by
  have hm1 := m_push ⟨g, 0, none⟩ w
  have hw1 : wrap64 (((ls.length + 1 : Nat) : Int) - 1) = (ls.length : Int) := by unfold wrap64; omega
  have H := Aside0.mk h
  have HU := Aside0.mk hu
  clear h hu
  go_enter Try.func23, Try.ntmps23
  go_wp2_with fail
  refine (push74_calls H.out hB (Nat.le_of_lt hl) A n c x HU.out hx).mono ?_
  rintro e w2 ⟨rfl, ⟨v2, us2, hs2⟩, hst2⟩
  have hB2 := Nat.le_trans hB hst2.below.size
  have hlen : (ls ++ [x]).length = ls.length + 1 := by simp
  obtain ⟨k, c2, rfl⟩ : ∃ A c, v2 = .slice A (ls.length + 1) c := by
    rcases hs2.own.2 with ⟨_, h0⟩ | ⟨k, cap, cur, e1, _⟩
    · rw [hlen] at h0; omega
    · exact ⟨_, _, by rw [hlen] at e1; exact e1⟩
  have hm2 := m_len hs2.cell
  clear hm1
  go_wp2_with (refine (len70_calls _ _ _ _).mono ?_; rintro e w3 ⟨rfl, hw⟩; subst hw)
  refine (up_calls hs2 hB2 (by omega) ls.length (by omega)).mono ?_
  rintro e w4 ⟨rfl, hup⟩
  obtain ⟨us4, hs4⟩ := hup.hs
  have hst4 := hup.step
  go_wp2_with fail
  go_end0
  exact ⟨rfl, ⟨_, _, hs4⟩, hst2.trans hst4⟩
/-- What heap.Fix at 0 leaves. -/
def fixed (ls : List (List S24)) : List (List S24) := Hp.down [] ltH (ls.length + 1) ls 0 ls.length
theorem up0 (l : List (List S24)) : Hp.up [] ltH (0 + 1) l 0 = l := by rw [Hp.up]; rfl
set_option maxHeartbeats 1000000 in
theorem fix32_calls {w : World} {B M g : Nat} {ls : List (List S24)} {v : Value} {us : List Value} (h : Hs w B M g ls v us) (hB : B ≤ w.heap.size) (hl : ls.length ≤ 1000000) (h0 : 0 < ls.length) :
    Calls Try.prog 32 #[.iface 49 (.pointer (some ⟨g, 0, none⟩)), .int .i64 0] w fun e w' => e = .returned (.tuple #[]) ∧ (∃ v' us', Hs w' B M g (fixed ls) v' us') ∧ Step B w w' := by
  have hm1 := m_len h.cell
  obtain ⟨A, c, rfl⟩ : ∃ A c, v = .slice A ls.length c := by
    rcases h.own.2 with ⟨_, h0⟩ | ⟨k, cap, cur, e1, _⟩
    · omega
    · exact ⟨_, _, e1⟩
  have H := Aside0.mk h
  clear h
  go_enter Try.func32, Try.ntmps32
  go_wp2_with (refine (len70_calls _ _ _ _).mono ?_; rintro e w1 ⟨rfl, hw⟩; subst hw)
  refine (down_calls H.out hB hl 0 ls.length (ls.length + 1) (by omega) (Nat.le_refl _) (by omega) (by omega)).mono ?_
  rintro e w3 ⟨⟨b, rfl⟩, hd3⟩
  obtain ⟨us3, hs3⟩ := hd3.hs
  have hst3 := hd3.step
  have hB3 := Nat.le_trans hB hst3.below.size
  clear hm1
  cases b with
  | true =>
    go_wp2_with fail
    go_end0
    exact ⟨rfl, ⟨_, _, hs3⟩, hst3⟩
  | false =>
    have hlen3 : (Hp.down [] ltH (ls.length + 1) ls 0 ls.length).length = ls.length := Hp.down_length _ _ _ _
    go_wp2_with fail
    refine (up_calls hs3 hB3 (by omega) 0 (by omega)).mono ?_
    rintro e w4 ⟨rfl, hup⟩
    obtain ⟨us4, hs4⟩ := hup.hs
    have hst4 := hup.step
    rw [up0] at hs4
    go_wp2_with fail
    go_end0
    exact ⟨rfl, ⟨_, _, hs4⟩, hst3.trans hst4⟩
end Go.Proofs.Ytfamnbejimbenaa.X
