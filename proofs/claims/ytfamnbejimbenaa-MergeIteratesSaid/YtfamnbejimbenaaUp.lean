/- container/heap's up, walked. -/
import Derived.Test.YtfamnbejimbenaaHs
set_option linter.unusedVariables false
set_option linter.unusedSimpArgs false
namespace Go.Proofs.Ytfamnbejimbenaa.X
open Go.RowKit Go.Sort Go.Proofs.Ytfamnbejimbenaa.G Go.Proofs.YtfamnbejimbenaaW.PrintWords Go.Proofs.YtfamnbejimbenaaW.PrintLast Go.Proofs.YtfamnbejimbenaaW.PrintMore
theorem Hs.cell {w : World} {B M g : Nat} {ls : List (List S24)} {v : Value} {us : List Value} (h : Hs w B M g ls v us) : w.cell? ⟨g, 0, none⟩ = some v := by
  simp [World.cell?, h.box]
theorem par (j : Nat) : ((j : Int) - 1).tdiv 2 = (((j - 1) / 2 : Nat) : Int) := by
  cases j with
  | zero => decide
  | succ j => rw [Int.tdiv_eq_ediv_of_nonneg (by omega)]; omega
theorem par_ex (k : Nat) (hk : k ≤ 1000000) : ∃ p, p = (k - 1) / 2 ∧ p ≤ k ∧ (p = k → k = 0) ∧ (p = k ∨ p < k) ∧ ((k : Int) - 1).tdiv 2 = (p : Int) ∧ ((k - 1 : Nat) : Int) / 2 = (p : Int) ∧ wrap64 ((k : Int) - 1) = (k : Int) - 1 ∧ wrap64 (p : Int) = (p : Int) :=
  ⟨(k - 1) / 2, rfl, by omega, by omega, by omega, par k, by omega, by unfold wrap64; omega, by unfold wrap64; omega⟩
theorem eq_dec {p k : Nat} (h : p = k) : ((p : Int) == (k : Int)) = true ∧ decide ((p : Int) = (k : Int)) = true := by simp [h]
theorem ne_dec {p k : Nat} (h : p ≠ k) : ((p : Int) == (k : Int)) = false ∧ decide ((p : Int) = (k : Int)) = false := by
  have : (p : Int) ≠ (k : Int) := by omega
  simp [this]
/-- The state of up and of down. -/
structure Upp (w wr : World) (B M g : Nat) (ls : List (List S24)) (v : Value) : Prop where
  hs : ∃ us, Hs wr B M g ls v us
  step : Step B w wr
set_option maxHeartbeats 1000000 in
theorem up_calls {w : World} {B M g : Nat} {ls : List (List S24)} {v : Value} {us : List Value} (h : Hs w B M g ls v us) (hB : B ≤ w.heap.size) (hl : ls.length ≤ 1000000) (j : Nat) (hj : j < ls.length) :
    Calls Try.prog 31 #[.iface 49 (.pointer (some ⟨g, 0, none⟩)), .int .i64 j] w fun e w' => e = .returned (.tuple #[]) ∧ Upp w w' B M g (Hp.up [] ltH (j + 1) ls j) v := by
  have H0 := Aside0.mk h
  clear h
  go_enter Try.func31, Try.ntmps31
  go_wp2_with fail
  go_loopw [1] (fun v1 wr => ∃ (k f : Nat) (l : List (List S24)), v1 = .int .i64 k ∧ k < l.length ∧ k < f ∧ l.length = ls.length ∧ Aside0 (Upp w wr B M g l v ∧ Hp.up [] ltH f l k = Hp.up [] ltH (j + 1) ls j)) (fun v1 _ => (intOf v1).toNat)
  case atStart => exact ⟨j, j + 1, ls, rfl, hj, by omega, rfl, ⟨⟨⟨_, H0.out⟩, ⟨Below.refl _ _, fun _ _ _ _ => rfl⟩⟩, rfl⟩⟩
  case round =>
    clear H0
    obtain ⟨k, f, l, rfl, hk, hf, hll, HI⟩ := hrel
    obtain ⟨hu, he⟩ := HI.out
    have HU := Aside0.mk hu
    have HE := Aside0.mk he
    clear HI hu he
    obtain ⟨us1, hs1⟩ := HU.out.hs
    have HS := Aside0.mk hs1
    have hm1 := m_less hs1.cell
    clear hs1
    have hpp := par_ex k (by omega)
    have hpB : B ≤ wr.heap.size := Nat.le_trans hB HU.out.step.below.size
    obtain ⟨p, hp, hpl, hp0, hp1, hw2, hw4, hw1, hw3⟩ := hpp
    have HP := Aside0.mk hp
    clear hp
    by_cases hpk : p = k
    · obtain ⟨t1, t2⟩ := eq_dec hpk
      go_wp2_with fail
      have hE := HE.out
      obtain ⟨f', rfl⟩ : ∃ f', f = f' + 1 := ⟨f - 1, by clear hw1 hw2 hw3 hw4; omega⟩
      rw [Hp.up, if_pos (by rw [← HP.out]; exact hpk)] at hE
      go_end0
      exact ⟨rfl, hE ▸ HU.out⟩
    · obtain ⟨t1, t2⟩ := ne_dec hpk
      have hplt : p < l.length := by clear hw1 hw2 hw3 hw4; omega
      go_wp2_with fail
      refine (HS.out.less k p hk hplt).mono ?_
      rintro e w2 ⟨rfl, hb⟩
      have HS2 := Aside0.mk (HS.out.below hb hpB)
      have HU2 := Aside0.mk (HU.out.step.trans (Step.of_below hb hpB))
      clear hb hm1 HS
      have hE := HE.out
      obtain ⟨f', rfl⟩ : ∃ f', f = f' + 1 := ⟨f - 1, by clear hw1 hw2 hw3 hw4; omega⟩
      rw [Hp.up, if_neg (by rw [← HP.out]; exact hpk), ← HP.out] at hE
      have HE2 := Aside0.mk hE
      clear hE HE
      cases hlt : ltH (l.getD k []) (l.getD p []) with
      | false =>
        have hE := HE2.out
        rw [if_neg (by rw [hlt]; simp)] at hE
        go_wp2_with fail
        go_end0
        exact ⟨rfl, ⟨_, hE ▸ HS2.out⟩, HU2.out⟩
      | true =>
        have hE := HE2.out
        rw [if_pos hlt] at hE
        have HE3 := Aside0.mk hE
        clear hE HE2
        have hm2 := m_swap HS2.out.cell
        go_wp2_with fail
        refine (HS2.out.swap p k hplt hk).mono ?_
        rintro e w3 ⟨rfl, ⟨us3, hs3⟩, hst3⟩
        go_wp2_with fail
        go_roundw
        case rel => exact ⟨p, f', Hp.sw [] l p k, rfl, by rw [Hp.sw_length]; exact hplt, by clear hw1 hw2 hw3 hw4; omega, by rw [Hp.sw_length]; exact hll, ⟨⟨⟨_, hs3⟩, HU2.out.trans hst3⟩, HE3.out⟩⟩
        case measure => clear hw1 hw2 hw3 hw4; simp [intOf]; omega
end Go.Proofs.Ytfamnbejimbenaa.X
