/- container/heap's down, walked. -/
import Derived.Test.YtfamnbejimbenaaHs
set_option linter.unusedVariables false
set_option linter.unusedSimpArgs false
namespace Go.Proofs.Ytfamnbejimbenaa.X
open Go.RowKit Go.Sort Go.Proofs.Ytfamnbejimbenaa.G Go.Proofs.YtfamnbejimbenaaW.PrintWords Go.Proofs.YtfamnbejimbenaaW.PrintLast Go.Proofs.YtfamnbejimbenaaW.PrintMore
theorem Hs.cell' {w : World} {B M g : Nat} {ls : List (List S24)} {v : Value} {us : List Value} (h : Hs w B M g ls v us) : w.cell? ⟨g, 0, none⟩ = some v := by
  simp [World.cell?, h.box]
theorem kid_ex (k n : Nat) (hk : k ≤ 1000000) : ∃ p q : Nat, p = 2 * k + 1 ∧ q = 2 * k + 2 ∧ 2 * (k : Int) + 1 = (p : Int) ∧ (p : Int) + 1 = (q : Int) ∧ wrap64 (2 * (k : Int)) = 2 * (k : Int) ∧ wrap64 (2 * (k : Int) + 1) = (p : Int) ∧ wrap64 (p : Int) = (p : Int) ∧ wrap64 ((p : Int) + 1) = (q : Int) ∧ wrap64 (q : Int) = (q : Int) ∧ decide ((p : Int) < 0) = false :=
  ⟨2 * k + 1, 2 * k + 2, rfl, rfl, by omega, by omega, by unfold wrap64; omega, by unfold wrap64; omega, by unfold wrap64; omega, by unfold wrap64; omega, by unfold wrap64; omega, decide_eq_false (by omega)⟩
theorem le_dec {p n : Nat} (h : n ≤ p) : decide ((n : Int) ≤ (p : Int)) = true ∧ decide ((p : Int) ≥ (n : Int)) = true := ⟨decide_eq_true (by omega), decide_eq_true (by omega)⟩
theorem nle_dec {p n : Nat} (h : ¬ n ≤ p) : decide ((n : Int) ≤ (p : Int)) = false ∧ decide ((p : Int) ≥ (n : Int)) = false := ⟨decide_eq_false (by omega), decide_eq_false (by omega)⟩
theorem lt_dec {p n : Nat} (h : p < n) : decide ((p : Int) < (n : Int)) = true := decide_eq_true (by omega)
theorem nlt_dec {p n : Nat} (h : ¬ p < n) : decide ((p : Int) < (n : Int)) = false := decide_eq_false (by omega)
theorem kid_lt {p q n m k f : Nat} (hp : p = 2 * k + 1) (hq : q = 2 * k + 2) (hn : ¬ n ≤ p) (hnm : n ≤ m) (hf : n ≤ k + (f + 1)) : p < m ∧ p < n ∧ k < m ∧ n ≤ p + f ∧ n ≤ q + f ∧ k < p ∧ k < q := by omega
/-- The state of down. -/
structure Dnn (w wr : World) (B M g : Nat) (ls : List (List S24)) (v : Value) : Prop where
  hs : ∃ us, Hs wr B M g ls v us
  step : Step B w wr
theorem fuel_ex {n k f p : Nat} (hp : p = 2 * k + 1) (hn : ¬ n ≤ p) (hf : n ≤ k + f) : ∃ f', f = f' + 1 := ⟨f - 1, by omega⟩
theorem meas {n k c : Nat} (h : k < c) (hc : c < n) : n - (intOf (.int .i64 (c : Int))).toNat < n - (intOf (.int .i64 (k : Int))).toNat := by simp [intOf]; omega
set_option maxHeartbeats 2000000 in
theorem down_calls {w : World} {B M g : Nat} {ls : List (List S24)} {v : Value} {us : List Value} (h : Hs w B M g ls v us) (hB : B ≤ w.heap.size) (hl : ls.length ≤ 1000000) (i n F : Nat) (hi : i ≤ 1000000) (hn : n ≤ ls.length) (hF : n ≤ i + F) (hF0 : 0 < F) :
    Calls Try.prog 37 #[.iface 49 (.pointer (some ⟨g, 0, none⟩)), .int .i64 i, .int .i64 n] w fun e w' => (∃ b, e = .returned (.bool b)) ∧ Dnn w w' B M g (Hp.down [] ltH F ls i n) v := by
  have H0 := Aside0.mk h
  clear h
  go_enter Try.func37, Try.ntmps37
  go_wp2_with fail
  go_loopw [7] (fun v1 wr => ∃ (k f : Nat) (l : List (List S24)), v1 = .int .i64 k ∧ (k ≤ 1000000 ∧ 0 < f ∧ n ≤ k + f) ∧ l.length = ls.length ∧ Aside0 (Dnn w wr B M g l v ∧ Hp.down [] ltH f l k n = Hp.down [] ltH F ls i n)) (fun v1 _ => n - (intOf v1).toNat)
  case atStart => exact ⟨i, F, ls, rfl, ⟨hi, hF0, hF⟩, rfl, ⟨⟨⟨_, H0.out⟩, ⟨Below.refl _ _, fun _ _ _ _ => rfl⟩⟩, rfl⟩⟩
  case round =>
    clear H0
    obtain ⟨k, f, l, rfl, ⟨hk, hf0, hf⟩, hll, HI⟩ := hrel
    obtain ⟨hu, he⟩ := HI.out
    have HU := Aside0.mk hu
    have HE := Aside0.mk he
    clear HI hu he
    obtain ⟨us1, hs1⟩ := HU.out.hs
    have HS := Aside0.mk hs1
    have hm1 := m_less hs1.cell'
    clear hs1
    have hpB : B ≤ wr.heap.size := Nat.le_trans hB HU.out.step.below.size
    have HU := Aside0.mk HU.out.step
    obtain ⟨f', rfl⟩ : ∃ f', f = f' + 1 := ⟨f - 1, by omega⟩
    have hpp := kid_ex k n hk
    obtain ⟨p, q, hp, hq, a1, a2, a3, a4, a5, a6, a7, a8⟩ := hpp
    have HPE := Aside0.mk (And.intro hp hq)
    by_cases hnp : n ≤ p
    · obtain ⟨t1, t2⟩ := le_dec hnp
      clear hp hq
      have hE := HE.out
      rw [Hp.down, if_pos (by rw [← HPE.out.1]; exact hnp)] at hE
      go_wp2_with fail
      go_ret
      exact ⟨⟨_, rfl⟩, ⟨_, hE ▸ HS.out⟩, HU.out⟩
    · obtain ⟨t1, t2⟩ := nle_dec hnp
      obtain ⟨hpm, hpn, hkm, hfp, hfq, hkp, hkq⟩ := kid_lt hp hq hnp (Nat.le_trans hn (Nat.le_of_eq hll.symm)) hf
      have hpl : p ≤ 1000000 := Nat.le_trans (Nat.le_of_lt hpm) (hll ▸ hl)
      by_cases hqn : q < n
      · have t3 := lt_dec hqn
        have hqm : q < l.length := Nat.lt_of_lt_of_le hqn (Nat.le_trans hn (Nat.le_of_eq hll.symm))
        have hql : q ≤ 1000000 := Nat.le_trans (Nat.le_of_lt hqm) (hll ▸ hl)
        clear hp hq
        go_wp2_with fail
        refine (HS.out.less q p hqm hpm).mono ?_
        rintro e w2 ⟨rfl, hb2⟩
        have HS2 := Aside0.mk (HS.out.below hb2 hpB)
        have HU2 := Aside0.mk (HU.out.trans (Step.of_below hb2 hpB))
        have hpB2 : B ≤ w2.heap.size := Nat.le_trans hpB hb2.size
        have hm3 := m_less HS2.out.cell'
        clear hb2 hm1 HS HU
        cases hlq : ltH (l.getD q []) (l.getD p []) with
        | true =>
          have hE := HE.out
          rw [Hp.down, if_neg (by rw [← HPE.out.1]; exact hnp), show Hp.least [] ltH l k n = q from by unfold Hp.least; rw [← HPE.out.1, ← HPE.out.2]; rw [if_pos ⟨hqn, hlq⟩]] at hE
          have HE2 := Aside0.mk hE
          clear hE HE
          go_wp2_with fail
          refine (HS2.out.less q k hqm hkm).mono ?_
          rintro e w4 ⟨rfl, hb4⟩
          have HS4 := Aside0.mk (HS2.out.below hb4 hpB2)
          have HU4 := Aside0.mk (HU2.out.trans (Step.of_below hb4 hpB2))
          clear hb4 hm3 HS2 HU2
          cases hlt : ltH (l.getD q []) (l.getD k []) with
          | false =>
            have hE := HE2.out
            rw [if_neg (by rw [hlt]; simp)] at hE
            go_wp2_with fail
            go_ret
            exact ⟨⟨_, rfl⟩, ⟨_, hE ▸ HS4.out⟩, HU4.out⟩
          | true =>
            have hE := HE2.out
            rw [if_pos hlt] at hE
            have HE3 := Aside0.mk hE
            clear hE HE2
            have hm4 := m_swap HS4.out.cell'
            go_wp2_with fail
            refine (HS4.out.swap k q hkm hqm).mono ?_
            rintro e w5 ⟨rfl, ⟨us5, hs5⟩, hst5⟩
            go_wp2_with fail
            go_roundw
            case rel => exact ⟨q, f', Hp.sw [] l k q, rfl, ⟨hql, Nat.pos_of_ne_zero (fun h0 => by rw [h0] at hfq; exact absurd hqn (Nat.not_lt.2 hfq)), hfq⟩, by rw [Hp.sw_length]; exact hll, ⟨⟨⟨_, hs5⟩, HU4.out.trans hst5⟩, HE3.out⟩⟩
            case measure => exact meas hkq hqn
        | false =>
          have hE := HE.out
          rw [Hp.down, if_neg (by rw [← HPE.out.1]; exact hnp), show Hp.least [] ltH l k n = p from by unfold Hp.least; rw [← HPE.out.1, ← HPE.out.2]; rw [if_neg (fun h => by rw [hlq] at h; exact absurd h.2 (by simp))]] at hE
          have HE2 := Aside0.mk hE
          clear hE HE
          go_wp2_with fail
          refine (HS2.out.less p k hpm hkm).mono ?_
          rintro e w4 ⟨rfl, hb4⟩
          have HS4 := Aside0.mk (HS2.out.below hb4 hpB2)
          have HU4 := Aside0.mk (HU2.out.trans (Step.of_below hb4 hpB2))
          clear hb4 hm3 HS2 HU2
          cases hlt : ltH (l.getD p []) (l.getD k []) with
          | false =>
            have hE := HE2.out
            rw [if_neg (by rw [hlt]; simp)] at hE
            go_wp2_with fail
            go_ret
            exact ⟨⟨_, rfl⟩, ⟨_, hE ▸ HS4.out⟩, HU4.out⟩
          | true =>
            have hE := HE2.out
            rw [if_pos hlt] at hE
            have HE3 := Aside0.mk hE
            clear hE HE2
            have hm4 := m_swap HS4.out.cell'
            go_wp2_with fail
            refine (HS4.out.swap k p hkm hpm).mono ?_
            rintro e w5 ⟨rfl, ⟨us5, hs5⟩, hst5⟩
            go_wp2_with fail
            go_roundw
            case rel => exact ⟨p, f', Hp.sw [] l k p, rfl, ⟨hpl, Nat.pos_of_ne_zero (fun h0 => by rw [h0] at hfp; exact absurd hpn (Nat.not_lt.2 hfp)), hfp⟩, by rw [Hp.sw_length]; exact hll, ⟨⟨⟨_, hs5⟩, HU4.out.trans hst5⟩, HE3.out⟩⟩
            case measure => exact meas hkp hpn
      · have t3 := nlt_dec hqn
        clear hp hq
        have hE := HE.out
        rw [Hp.down, if_neg (by rw [← HPE.out.1]; exact hnp), show Hp.least [] ltH l k n = p from by unfold Hp.least; rw [← HPE.out.1, ← HPE.out.2]; rw [if_neg (fun h => hqn h.1)]] at hE
        have HE2 := Aside0.mk hE
        clear hE HE
        have HS2 := HS
        have HU2 := HU
        have hpB2 := hpB
        have hm3 := hm1
        clear HS HU hm1
        go_wp2_with fail
        refine (HS2.out.less p k hpm hkm).mono ?_
        rintro e w4 ⟨rfl, hb4⟩
        have HS4 := Aside0.mk (HS2.out.below hb4 hpB2)
        have HU4 := Aside0.mk (HU2.out.trans (Step.of_below hb4 hpB2))
        clear hb4 hm3 HS2 HU2
        cases hlt : ltH (l.getD p []) (l.getD k []) with
        | false =>
          have hE := HE2.out
          rw [if_neg (by rw [hlt]; simp)] at hE
          go_wp2_with fail
          go_ret
          exact ⟨⟨_, rfl⟩, ⟨_, hE ▸ HS4.out⟩, HU4.out⟩
        | true =>
          have hE := HE2.out
          rw [if_pos hlt] at hE
          have HE3 := Aside0.mk hE
          clear hE HE2
          have hm4 := m_swap HS4.out.cell'
          go_wp2_with fail
          refine (HS4.out.swap k p hkm hpm).mono ?_
          rintro e w5 ⟨rfl, ⟨us5, hs5⟩, hst5⟩
          go_wp2_with fail
          go_roundw
          case rel => exact ⟨p, f', Hp.sw [] l k p, rfl, ⟨hpl, Nat.pos_of_ne_zero (fun h0 => by rw [h0] at hfp; exact absurd hpn (Nat.not_lt.2 hfp)), hfp⟩, by rw [Hp.sw_length]; exact hll, ⟨⟨⟨_, hs5⟩, HU4.out.trans hst5⟩, HE3.out⟩⟩
          case measure => exact meas hkp hpn
end Go.Proofs.Ytfamnbejimbenaa.X
