/- NetOrder, walked. -/
import Derived.Test.YtgknafhpfghbjaaKeep
import Derived.Test.YtgknafhpfghbjaaDbl
set_option linter.unusedVariables false
set_option linter.unusedSimpArgs false
namespace Go.Proofs.Ytgknafhpfghbjaa.X
open Go.RowKit Go.Proofs.Ytgknafhpfghbjaa.B Go.Proofs.Ytgknafhpfghbjaa Go.Proofs.YtgknafhpfghbjaaW.PrintWords Go.Proofs.YtgknafhpfghbjaaW.PrintLast Go.Proofs.YtgknafhpfghbjaaW.PrintMore

/-- A row of rows of bytes that is read. -/
abbrev CL (w : World) (A : Option Addr) (l : List (List Int)) : Prop := Kd.C (Kd.slice 5 (Kd.int .u8)) w A l.length l
theorem at_row {w : World} {A : Option Addr} {l : List (List Int)} (h : CL w A l) (k : Nat) (hk : k < l.length) : ∃ ad A0 c0, A = some ad ∧ w.cell? (ad.add k) = some (.slice A0 (l.getD k []).length c0) ∧ (l.getD k []).length ≤ c0 ∧ (Kd.int .u8).C w A0 (l.getD k []).length (l.getD k []) := by
  obtain ⟨ad, A0, c0, e, h1, h2, h3⟩ := at_L2 h (k : Int) (by omega) (by omega)
  exact ⟨ad, A0, c0, e, h1, h2, h3⟩
theorem conv_bytes {w : World} {A : Option Addr} {n : Nat} (c : Nat) {bs : List Int} (h : Kd.C (Kd.int .u8) w A n bs) : (convert 28 9 (.slice A n c)).run Try.prog w = .ok (.string (strOfNums bs)) w := Kd.C_string Try.underlying28 Try.underlying5 Try.underlying9 h
/-- One net alone, made since w. -/
def One (w wr : World) (g : Nat) (xs : List S32) : Prop := Below w.heap.size w wr ∧ ∃ v, Net 51 wr w.heap.size g (fun _ => True) v xs
theorem One.post {w wr w' : World} {g : Nat} {v : Value} {xs : List S32} (hb : Below w.heap.size w wr) (h : NPost 51 wr w' w.heap.size g (fun _ => True) v xs) : One w w' g xs := by
  obtain ⟨v1, h1, h2, _⟩ := h
  exact ⟨hb.trans h2, v1, h1⟩
theorem One.below {w wr w' : World} {g : Nat} {xs : List S32} (h : One w wr g xs) (hb : Below wr.heap.size wr w') : One w w' g xs := by
  obtain ⟨h1, v, h2⟩ := h
  exact ⟨h1.trans (hb.mono h1.size), v, h2.below hb⟩
theorem one_new (w : World) : One w (w.alloc (.cells #[.slice none 0 0] 51)) w.heap.size [] := ⟨below_alloc (Below.refl _ _) _, _, new_net w w.heap.size _ (Nat.le_refl _) 51 (.inl rfl)⟩
set_option maxHeartbeats 4000000 in
theorem order_calls (A0 : Option Addr) (c0 : Nat) (l : List (List Int)) (w : World) (hC0 : CL w A0 l) (hc0 : l.length ≤ c0) :
    Calls Try.prog 4 #[.slice A0 l.length c0] w fun e w' => e = .returned (.bool true) ∧ Below w.heap.size w w' := by
  have HC0 := Aside0.mk hC0
  have hll := hC0.2.1
  clear hC0
  by_cases hm : 256 < l.length
  · have t1 : decide (256 < (l.length : Int)) = true := decide_eq_true (by omega)
    have t2 : decide (256 < l.length) = true := decide_eq_true hm
    go_enter Try.func4, Try.ntmps4
    go_wp2
    go_ret
    exact ⟨rfl, Below.refl _ _⟩
  · have t1 : decide (256 < (l.length : Int)) = false := decide_eq_false (by omega)
    have t2 : decide (256 < l.length) = false := decide_eq_false hm
    have hl : l.length ≤ 256 := by omega
    have HO := Aside0.mk (one_new w)
    go_enter Try.func4, Try.ntmps4
    go_wp2_with (refine (new_calls _).mono ?_; rintro e w1 ⟨rfl, rfl⟩)
    clear t1 t2
    go_loopw [4] (fun v4 wr => ∃ k : Nat, v4 = .int .i64 k ∧ k ≤ l.length ∧ Aside0 (One w wr w.heap.size (keep (fun j => -(j : Int)) l 0 k))) (fun v4 _ => l.length - (intOf v4).toNat)
    case atStart => exact ⟨0, rfl, by omega, HO⟩
    case round =>
      obtain ⟨k, rfl, hk, HK⟩ := hrel
      clear HO
      by_cases hlt : k < l.length
      · have t1 : decide ((k : Int) < (l.length : Int)) = true := decide_eq_true (by omega)
        have t2 : decide (k < l.length) = true := decide_eq_true hlt
        obtain ⟨hbk, v, hN⟩ := HK.out
        obtain ⟨ad, A1, c1, hA, hcs, hl1, hC1⟩ := at_row (Kd.C_below HC0.out hbk) k hlt
        subst hA
        obtain ⟨hs1, hs2⟩ := send_keep (fun j => -(j : Int)) l k (by omega) (-(k : Int)) rfl _ rfl
        generalize l.getD k [] = ds at hcs hl1 hC1 hs1 hs2
        have hn1 := hC1.2.1
        have HN := Aside0.mk hN
        have HB := Aside0.mk hbk
        have HC1 := Aside0.mk hC1
        have HS := Aside0.mk hs1
        have HSE := Aside0.mk hs2
        have hneg : IntKind.i64.wrap (-(k : Int)) = -(k : Int) := IntWalk.i64_in _ (by omega)
        have hki : (k : Int) < (l.length : Int) := by omega
        clear hN hbk hC1 hs1 hs2 HK
        by_cases hd : 32768 < ds.length
        · have t3 : decide (32768 < (ds.length : Int)) = true := decide_eq_true (by omega)
          have t4 : decide (32768 < ds.length) = true := decide_eq_true hd
          go_wp2_with fail
          refine (send_calls HN.out HB.out.size (fun _ _ => trivial) _ _ A1 c1 ds (by omega) hl1 HC1.out).mono ?_
          rintro e w2 ⟨rfl, hp⟩
          rw [HSE.out, if_pos hd]
          rw [HS.out] at hp
          have HP := Aside0.mk (One.post HB.out hp)
          clear hp
          go_wp2
          go_roundw
          case rel => exact ⟨k + 1, by go_num, by omega, HP⟩
          case measure => simp [intOf]; omega
        · have t3 : decide (32768 < (ds.length : Int)) = false := decide_eq_false (by omega)
          have t4 : decide (32768 < ds.length) = false := decide_eq_false hd
          go_wp2_with fail
          refine (send_calls HN.out HB.out.size (fun _ _ => trivial) _ _ A1 c1 ds (by omega) hl1 HC1.out).mono ?_
          rintro e w2 ⟨rfl, hp⟩
          rw [HSE.out, if_neg hd]
          rw [HS.out] at hp
          have HP := Aside0.mk (One.post HB.out hp)
          clear hp
          go_wp2
          go_roundw
          case rel => exact ⟨k + 1, by go_num, by omega, HP⟩
          case measure => simp [intOf]; omega
      · have t1 : decide ((k : Int) < (l.length : Int)) = false := decide_eq_false (by omega)
        have t2 : decide (k < l.length) = false := decide_eq_false hlt
        obtain rfl : k = l.length := by omega
        go_wp2_with fail
        clear t1 t2
        obtain ⟨wm, hwm⟩ : ∃ wm : World, wm = wr := ⟨_, rfl⟩
        subst hwm
        go_loopw [6] (fun v6 wr => ∃ k : Nat, v6 = .int .i64 k ∧ k ≤ l.length ∧ Aside0 (One w wr w.heap.size (keep (fun j => -(j : Int)) l k (l.length - k)))) (fun v6 _ => l.length - (intOf v6).toNat)
        case atStart => exact ⟨0, rfl, by omega, by simpa using HK⟩
        case round =>
          clear HK
          obtain ⟨k, rfl, hk, HK⟩ := hrel
          by_cases hlt : k < l.length
          · have t1 : decide ((k : Int) < (l.length : Int)) = true := decide_eq_true (by omega)
            have t2 : decide (k < l.length) = true := decide_eq_true hlt
            obtain ⟨hbk, v, hN⟩ := HK.out
            obtain ⟨ad, A1, c1, hA, hcs, hl1, hC1⟩ := at_row (Kd.C_below HC0.out hbk) k hlt
            subst hA
            have hn1 := hC1.2.1
            have hki : (k : Int) < (l.length : Int) := by omega
            by_cases hd : 32768 < (l.getD k []).length
            · rw [show l.length - k = (l.length - (k + 1)) + 1 by omega, keep_cons_no _ _ _ hd] at hN
              have HP := Aside0.mk (show One w wr w.heap.size (keep (fun j => -(j : Int)) l (k + 1) (l.length - (k + 1))) from ⟨hbk, v, hN⟩)
              generalize l.getD k [] = ds at hcs hl1 hd hC1 hn1
              have t3 : decide (32768 < (ds.length : Int)) = true := decide_eq_true (by omega)
              have t4 : decide (32768 < ds.length) = true := decide_eq_true hd
              clear hN hbk hC1 HK
              go_wp2
              go_roundw
              case rel => exact ⟨k + 1, by go_num, by omega, HP⟩
              case measure => simp [intOf]; omega
            · rw [show l.length - k = (l.length - (k + 1)) + 1 by omega, keep_cons_yes _ _ _ (by omega)] at hN
              have HAT := Aside0.mk (fun (W : World) (hW : Below w.heap.size w W) => at_row (Kd.C_below HC0.out hW) k hlt)
              have hp0 : pk (fun j => -(j : Int)) l k = ⟨(k : Int), -(k : Int), l.getD k []⟩ := rfl
              rw [hp0] at hN
              generalize l.getD k [] = ds at hcs hl1 hd hC1 hn1 hN HAT
              obtain ⟨r, hr⟩ : ∃ r, r = keep (fun j => -(j : Int)) l (k + 1) (l.length - (k + 1)) := ⟨_, rfl⟩
              rw [← hr] at hN
              have HR := Aside0.mk hr
              clear hr
              have t3 : decide (32768 < (ds.length : Int)) = false := decide_eq_false (by omega)
              have t4 : decide (32768 < ds.length) = false := decide_eq_false hd
              have HN := Aside0.mk hN
              have HB := Aside0.mk hbk
              have hneg : IntKind.i64.wrap (-(k : Int)) = -(k : Int) := IntWalk.i64_in _ (by omega)
              clear hN hbk hC1 HK hp0
              go_wp2_with fail
              refine (take_calls HN.out HB.out.size (fun _ _ => trivial) 0).mono ?_
              have hz : isAt ((⟨(k : Int), -(k : Int), ds⟩ : S32) :: r) 0 = true := by simp [isAt]
              have h1 : takeP ((⟨(k : Int), -(k : Int), ds⟩ : S32) :: r) 0 = ⟨(k : Int), -(k : Int), ds⟩ := by simp [takeP, hz, rd_T32]
              have h2 : takeE ((⟨(k : Int), -(k : Int), ds⟩ : S32) :: r) 0 = 0 := by simp [takeE, hz]
              have h3 : takeL ((⟨(k : Int), -(k : Int), ds⟩ : S32) :: r) 0 = r := by simp [takeL, hz]
              rw [h1, h2, h3]
              clear h1 h2 h3 hz
              rintro e w2 ⟨A2, c2, rfl, hl2, hu, hp⟩
              have HP := Aside0.mk ((One.post HB.out hp).below (below_drew (below_alloc (Below.refl _ _) (.cells #[.int .i64 (k : Int), .int .i64 (-(k : Int)), .slice A2 ds.length c2] 32))))
              have hC2 := (Kd.R_reads' hu).2.2
              have k1 := conv_bytes c2 (Kd.C_below hC2 (below_drew (below_alloc (Below.refl _ _) (.cells #[.int .i64 (k : Int), .int .i64 (-(k : Int)), .slice A2 ds.length c2] 32))))
              obtain ⟨ad3, A3, c3, he4, hcs3, _, hC3⟩ := HAT.out _ HP.out.1
              obtain rfl := Option.some.inj he4
              have k2 := conv_bytes c3 hC3
              clear hp hu hC2 hC3 hcs he4
              go_wp2_with fail
              go_region
              all_goals
                go_wp2
                go_roundw
                case rel => exact ⟨k + 1, by go_num, by omega, by rw [← HR.out]; exact HP⟩
                case measure => simp [intOf]; omega
          · have t1 : decide ((k : Int) < (l.length : Int)) = false := decide_eq_false (by omega)
            have t2 : decide (k < l.length) = false := decide_eq_false hlt
            obtain ⟨hbk, v, hN⟩ := HK.out
            rw [show l.length - k = 0 by omega, keep_nil] at hN
            have HN := Aside0.mk hN
            have HB := Aside0.mk hbk
            clear hN hbk HK
            go_wp2_with fail
            refine (take_calls HN.out HB.out.size (fun _ _ => trivial) 0).mono ?_
            have hz : isAt [] 0 = false := by simp [isAt]
            have h1 : takeP [] 0 = ⟨0, 0, []⟩ := by simp [takeP, hz, z32]
            have h2 : takeE [] 0 = 11 := by simp [takeE, hz]
            have h3 : takeL [] 0 = [] := by simp [takeL, hz]
            rw [h1, h2, h3]
            clear h1 h2 h3 hz
            rintro e w2 ⟨A2, c2, rfl, hl2, hu, hp⟩
            obtain ⟨hb5, v5, hN5⟩ := (One.post HB.out hp).below (below_alloc (Below.refl _ _) (.cells #[.int .i64 0, .int .i64 0, .slice A2 0 c2] 32))
            have HN5 := Aside0.mk hN5
            have HB5 := Aside0.mk hb5
            clear hp hu hN5 hb5
            go_wp2_with fail
            refine (len_calls HN5.out).mono ?_
            rintro e w3 ⟨rfl, rfl⟩
            go_wp2
            go_ret
            exact ⟨rfl, HB5.out⟩
end Go.Proofs.Ytgknafhpfghbjaa.X
