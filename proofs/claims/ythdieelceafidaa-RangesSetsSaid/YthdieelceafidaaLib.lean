/- What slices.IndexFunc, ContainsFunc, DeleteFunc, Clone and SortFunc do with ranges, told by plain lists. -/
import Derived.Test.YthdieelceafidaaFlat
import Derived.WalkSpells
namespace Go.Proofs.Ythdieelceafidaa.X
open Go.RowKit Go.Shelf Go.Sort Go.Proofs.Ythdieelceafidaa.G Go.Proofs.YthdieelceafidaaW.PrintWords Go.Proofs.YthdieelceafidaaW.PrintLast Go.Proofs.YthdieelceafidaaW.PrintMore

/-- A function value (function g with what it has captured) tells p of a range, in whatever later world. -/
def Pays (g : Nat) (cb : Array Value) (p : S24 → Bool) (I : World → Prop) : Prop := ∀ (x : S24) (W : World), I W → Calls Try.prog g (#[.agg #[.int .i64 x.f0, .int .i64 x.f1]] ++ cb) W fun e W' => e = .returned (.bool (p x)) ∧ Below W.heap.size W W'
theorem empty_calls (x : S24) (W : World) : Calls Try.prog 24 #[.agg #[.int .i64 x.f0, .int .i64 x.f1]] W fun e W' => e = .returned (.bool (decide (x.f1 ≤ x.f0))) ∧ Below W.heap.size W W' := by
  go_enter Try.func24, Try.ntmps24
  go_wp2
  repeat (go_quiet (fail); try go_wp2)
  go_ret
  exact ⟨rfl, by repeat (first | apply below_alloc | apply pw_below_drewN | apply below_drew1 | exact Below.refl _ _)⟩
theorem at_nat {w : World} {A : Option Addr} {xs : List S24} (h : Kd.C k24 w A xs.length xs) (i : Nat) (hi : i < xs.length) : ∃ ad x, A = some ad ∧ xs[i]? = some x ∧ w.cell? (ad.add (i * 2)) = some (.int .i64 x.f0) ∧ w.cell? ⟨(ad.add (i * 2)).block, (ad.add (i * 2)).off + 1, none⟩ = some (.int .i64 x.f1) := by
  obtain ⟨ad, e, c0, c1⟩ := at_T24 h (i : Int) (by omega) (by omega)
  have hr : rd_T24 xs (i : Int) = xs[i] := by simp [rd_T24, hi]
  rw [hr, Int.toNat_natCast] at c0 c1
  exact ⟨ad, xs[i], e, List.getElem?_eq_getElem hi, c0, c1⟩
def idx (p : S24 → Bool) : List S24 → Int
  | [] => -1
  | x :: l => if p x then 0 else if idx p l = -1 then -1 else idx p l + 1
theorem idx_step {p : S24 → Bool} {xs : List S24} {i : Nat} {x : S24} {r : Int} (hx : xs[i]? = some x) (h : r = if idx p (xs.drop i) = -1 then -1 else idx p (xs.drop i) + i) :
    (p x = true → r = i) ∧ (p x = false → r = if idx p (xs.drop (i + 1)) = -1 then -1 else idx p (xs.drop (i + 1)) + ((i + 1 : Nat) : Int)) := by
  have hi : i < xs.length := (List.getElem?_eq_some_iff.1 hx).1
  have hd : xs.drop i = x :: xs.drop (i + 1) := by
    rw [List.drop_eq_getElem_cons hi]
    rw [(List.getElem?_eq_some_iff.1 hx).2]
  rw [hd] at h
  constructor
  · intro hp
    simp only [idx, hp, if_true] at h
    rw [h, if_neg (by decide)]
    omega
  · intro hp
    simp only [idx, hp] at h
    rw [h]
    have hge : ∀ l, -1 ≤ idx p l := by
      intro l
      induction l with
      | nil => simp [idx]
      | cons y l ih => simp only [idx]; split <;> (try split) <;> omega
    have := hge (xs.drop (i + 1))
    by_cases h1 : idx p (xs.drop (i + 1)) = -1
    · simp [h1]
    · simp only [h1, if_false, Bool.false_eq_true]
      rw [if_neg (by omega)]
      omega
set_option maxHeartbeats 1000000 in
theorem indexFunc_calls (A : Option Addr) (c : Nat) (xs : List S24) (g : Nat) (cb : Array Value) (p : S24 → Bool) (w : World) (eg : ∀ args w, (callFunc g args).run Try.prog w = .ok (.enter g args) w) (I : World → Prop) (hI : ∀ W, Below w.heap.size w W → I W) (hp : Pays g cb p I) (hC : Kd.C k24 w A xs.length xs) :
    Calls Try.prog 33 #[.slice A xs.length c, .func (.func g) #[] cb] w fun e w' => e = .returned (.int .i64 (idx p xs)) ∧ Below w.heap.size w w' := by
  have HP := Aside0.mk hp
  have HIW := Aside0.mk hI
  have HC := Aside0.mk hC
  have hn := hC.2.1
  clear hp hC hI
  go_enter Try.func33, Try.ntmps33
  go_wp2
  go_loopw [8] (fun v8 wr => ∃ i : Nat, v8 = .int .i64 i ∧ i ≤ xs.length ∧ Aside0 (idx p xs = if idx p (xs.drop i) = -1 then -1 else idx p (xs.drop i) + i) ∧ Aside0 (Below w.heap.size w wr)) (fun v8 _ => xs.length - (intOf v8).toNat)
  case atStart => exact ⟨0, rfl, Nat.zero_le _, ⟨by simp⟩, ⟨Below.refl _ _⟩⟩
  case round =>
    obtain ⟨i, rfl, hi, HI, HB⟩ := hrel
    by_cases hlt : i < xs.length
    · have t1 : decide ((i : Int) < (xs.length : Int)) = true := decide_eq_true (by omega)
      have t2 : decide (i < xs.length) = true := decide_eq_true hlt
      obtain ⟨ad, x, rfl, hx, c0, c1⟩ := at_nat (Kd.C_below HC.out HB.out) i hlt
      have HX := Aside0.mk hx
      clear hx
      have hq := HP.out x wr (HIW.out wr HB.out)
      have HI2 := Aside0.mk (idx_step (p := p) HX.out HI.out)
      by_cases hpx : p x = true
      · rw [hpx] at hq
        have HQ := Aside0.mk hq
        have HPX := Aside0.mk hpx
        clear hq hpx
        go_wp2_with fail
        refine HQ.out.mono ?_
        rintro e w1 ⟨rfl, hb1⟩
        go_wp2
        go_ret
        exact ⟨by rw [HI2.out.1 HPX.out]; rfl, below_step HB.out hb1⟩
      · replace hpx := Bool.eq_false_iff.mpr hpx
        rw [hpx] at hq
        have HQ := Aside0.mk hq
        have HPX := Aside0.mk hpx
        clear hq hpx
        go_wp2_with fail
        refine HQ.out.mono ?_
        rintro e w1 ⟨rfl, hb1⟩
        go_wp2
        go_roundw
        case rel => exact ⟨i + 1, by go_num, by omega, ⟨HI2.out.2 HPX.out⟩, ⟨below_step HB.out hb1⟩⟩
        case measure => simp [intOf]; omega
    · have t1 : decide ((i : Int) < (xs.length : Int)) = false := decide_eq_false (by omega)
      have t2 : decide (i < xs.length) = false := decide_eq_false hlt
      go_wp2
      go_ret
      refine ⟨?_, HB.out⟩
      rw [HI.out, List.drop_eq_nil_of_le (by omega)]
      rfl
end Go.Proofs.Ythdieelceafidaa.X
