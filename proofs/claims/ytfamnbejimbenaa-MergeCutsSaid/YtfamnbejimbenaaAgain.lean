/- The law MergeAgain, walked. -/
import Derived.Test.YtfamnbejimbenaaRef
import Derived.Test.YtfamnbejimbenaaMerge
namespace Go.Proofs.Ytfamnbejimbenaa.X
open Go.RowKit Go.Proofs.Ytfamnbejimbenaa.G Go.Proofs.YtfamnbejimbenaaW.PrintWords Go.Proofs.YtfamnbejimbenaaW.PrintLast Go.Proofs.YtfamnbejimbenaaW.PrintMore

/-- A row of rows written down: it is read so. -/
theorem C_lit {W : World} {g : Nat} {cells : Array Value} {fr : Nat × Nat} (hb : W.heap[g]? = some (.cells cells 29 fr)) (L : List (List S24)) (hl : L.length ≤ 1000)
    (h : ∀ (j : Nat) (xs : List S24), L[j]? = some xs → ∃ (A : Option Addr) (c : Nat), cells[j]? = some (Value.slice A xs.length c) ∧ xs.length ≤ c ∧ Kd.C k24 W A xs.length xs) : Kd.C (Kd.slice 24 k24) W (some ⟨g, 0, none⟩) L.length L := by
  refine ⟨rfl, by omega, fun _ => ⟨_, rfl, fun j p hp => ?_⟩⟩
  obtain ⟨A, c, e, hle, hC⟩ := h j p hp
  refine ⟨[.slice A p.length c], rfl, ⟨A, c, rfl, hle, hC⟩, fun i u hu => ?_⟩
  match i, hu with
  | 0, hu =>
    obtain rfl := Option.some.inj hu
    have h1 : (⟨g, 0, none⟩ : Addr).add (j * 1 + 0) = ⟨g, j, none⟩ := by rw [add_plain]; simp
    show W.cell? ((⟨g, 0, none⟩ : Addr).add (j * 1 + 0)) = _
    rw [h1, cell_of_row W g j cells 29 fr hb]
    exact e
  | i + 1, hu => simp at hu
theorem merge_at {n : Nat} (A0 : Option Addr) (c0 : Nat) (L : List (List S24)) (w : World) (hn : L.length = n) (hC : Kd.C (Kd.slice 24 k24) w A0 L.length L) (hc : n ≤ c0) (h1 : L.length ≤ 1000000) (h2 : L.flatten.length ≤ 1000000) :
    Calls Try.prog 17 #[.slice A0 n c0] w fun e w' => ∃ A c, e = .returned (.slice A (view L.flatten).length c) ∧ (view L.flatten).length ≤ c ∧ Kd.C k24 w' A (view L.flatten).length (view L.flatten) ∧ Below w.heap.size w w' := by
  subst hn
  refine (merge_Merge.calls A0 c0 L _ w hC hc (if_pos ⟨h1, h2⟩)).mono ?_
  rintro e w' ⟨v, rfl, hv, hb⟩
  obtain ⟨A, c, rfl, hle, hR⟩ := Kd.R_reads hv
  exact ⟨A, c, rfl, hle, hR, hb⟩
theorem view_at (A0 : Option Addr) (c0 : Nat) (l : List S24) (w : World) (hC : Kd.C k24 w A0 l.length l) (hc : l.length ≤ c0) (h1 : l.length ≤ 1000000) :
    Calls Try.prog 12 #[.slice A0 l.length c0] w fun e w' => ∃ A c, e = .returned (.slice A (view l).length c) ∧ (view l).length ≤ c ∧ Kd.C k24 w' A (view l).length (view l) ∧ Below w.heap.size w w' := by
  refine (thermographref06_View.calls 6000000 A0 c0 l _ w hC hc (view_is_ref 1000000 6000000 l h1 (Nat.le_refl _) (by omega))).mono ?_
  rintro e w' ⟨v, rfl, hv, hb⟩
  obtain ⟨A, c, rfl, hle, hR⟩ := Kd.R_reads hv
  exact ⟨A, c, rfl, hle, hR, hb⟩
theorem same_at (A0 A1 : Option Addr) (c0 c1 : Nat) (l : List S24) (w : World) (hC0 : Kd.C k24 w A0 l.length l) (hc0 : l.length ≤ c0) (hC1 : Kd.C k24 w A1 l.length l) (hc1 : l.length ≤ c1) (h1 : l.length ≤ 1000000) :
    Calls Try.prog 18 #[.slice A0 l.length c0, .slice A1 l.length c1] w fun e w' => e = .returned (.bool true) ∧ Below w.heap.size w w' := by
  refine (thermographlaw06_same.calls 1000001 A0 c0 l A1 c1 l true w hC0 hc0 hC1 hc1 (same_self 1000001 l (by omega) (by omega))).mono ?_
  rintro e w' ⟨rfl, hw⟩
  refine ⟨rfl, ?_⟩
  obtain ⟨n, rfl⟩ := hw.out
  exact pw_below_drewN (Below.refl _ _) n
theorem view_of_view (l : List S24) : view (view l) = view l := (View.self (view_is l).rises).eq.symm
theorem view_three (l : List S24) (q : Nat) : view (l.take q ++ (view l ++ view l)) = view l := by
  refine ((view_is l).more (fun p hp => ?_) (fun p hp => ?_)).eq.symm
  · simp only [List.mem_append] at hp
    rcases hp with hp | hp | hp
    · exact List.mem_of_mem_take hp
    · exact (view_is l).sub p hp
    · exact (view_is l).sub p hp
  · simp only [List.mem_append]
    exact .inr (.inl hp)
set_option maxHeartbeats 1000000 in
theorem again_calls (A0 : Option Addr) (c0 : Nat) (l : List S24) (n : Int) (w : World) (hC : Kd.C k24 w A0 l.length l) (hc : l.length ≤ c0) :
    Calls Try.prog 5 #[.slice A0 l.length c0, .int .i64 n] w fun e w' => e = .returned (.bool true) ∧ Below w.heap.size w w' := by
  by_cases hl : (l.length : Int) > 4096
  · have t1 : decide (4096 < (l.length : Int)) = true := decide_eq_true hl
    have t2 : decide (4096 < l.length) = true := decide_eq_true (by omega)
    go_enter Try.func5, Try.ntmps5
    go_wp2
    go_ret
    exact ⟨rfl, Below.refl _ _⟩
  · have t1 : decide (4096 < (l.length : Int)) = false := decide_eq_false hl
    have t2 : decide (4096 < l.length) = false := decide_eq_false (by omega)
    have hv := view_len l
    have HC := Aside0.mk hC
    have hB1 := Aside0.mk (below_alloc (Below.refl w.heap.size w) (.cells #[.slice A0 l.length c0] 29))
    have H1 := Aside0.mk (C_lit (heap_alloc_new w (.cells #[.slice A0 l.length c0] 29)) [l] (by simp) (fun j xs hj => by
      match j, hj with
      | 0, hj => obtain rfl := Option.some.inj hj; exact ⟨A0, c0, rfl, hc, Kd.C_below hC hB1.out⟩
      | j + 1, hj => simp at hj))
    have hle : (l.length : Int) ≤ 4096 := by omega
    have hle2 : l.length ≤ 4096 := by omega
    have hpos : ¬ (l.length : Int) + 1 = 0 := by omega
    have b1 : Int.tmod n ((l.length : Int) + 1) < (l.length : Int) + 1 := Int.tmod_lt_of_pos n (by omega)
    have b2 : -((l.length : Int) + 1) < Int.tmod n ((l.length : Int) + 1) := Int.lt_tmod_of_pos n (by omega)
    obtain ⟨q, hq, hql⟩ : ∃ q : Nat, Int.tmod (Int.tmod n ((l.length : Int) + 1) + (l.length : Int) + 1) ((l.length : Int) + 1) = (q : Int) ∧ q ≤ l.length := by
      have b3 := Int.tmod_nonneg (a := Int.tmod n ((l.length : Int) + 1) + (l.length : Int) + 1) ((l.length : Int) + 1) (by omega)
      have b4 := Int.tmod_lt_of_pos (Int.tmod n ((l.length : Int) + 1) + (l.length : Int) + 1) (b := (l.length : Int) + 1) (by omega)
      exact ⟨(Int.tmod (Int.tmod n ((l.length : Int) + 1) + (l.length : Int) + 1) ((l.length : Int) + 1)).toNat, by omega, by omega⟩
    have hqc : q ≤ c0 := by omega
    clear hC hl
    go_enter Try.func5, Try.ntmps5
    go_wp2_with fail
    refine (merge_at _ _ [l] _ rfl H1.out (Nat.le_refl _) (by simp) (by simp; omega)).mono ?_
    rintro e w1 ⟨A1, c1, rfl, hle1, hC1, hb1⟩
    simp only [List.flatten_cons, List.flatten_nil, List.append_nil] at hle1 hC1 ⊢
    have HC1 := Aside0.mk hC1
    have HB := Aside0.mk (below_step hB1.out hb1)
    clear hC1 hb1 H1 hB1
    go_wp2_with fail
    have HB2 := Aside0.mk (below_alloc (below_alloc (Below.refl w1.heap.size w1) (.cells #[.slice A0 q c0, .slice A1 (view l).length c1, .slice A1 (view l).length c1] 29)) (.cells #[.slice A1 (view l).length c1] 29))
    have HX := Aside0.mk (blk_below (heap_alloc_new w1 (.cells #[.slice A0 q c0, .slice A1 (view l).length c1, .slice A1 (view l).length c1] 29)) (below_alloc (Below.refl _ _) (.cells #[.slice A1 (view l).length c1] 29)))
    have HY := Aside0.mk (heap_alloc_new (w1.alloc (.cells #[.slice A0 q c0, .slice A1 (view l).length c1, .slice A1 (view l).length c1] 29)) (.cells #[.slice A1 (view l).length c1] 29))
    rw [World.size_alloc] at HY
    generalize (w1.alloc (.cells #[.slice A0 q c0, .slice A1 (view l).length c1, .slice A1 (view l).length c1] 29)).alloc (.cells #[.slice A1 (view l).length c1] 29) = w2 at HB2 HX HY ⊢
    refine (view_at A0 c0 l w2 (Kd.C_below HC.out (below_step HB.out HB2.out)) hc (by omega)).mono ?_
    rintro e w3 ⟨A3, c3, rfl, hle3, hC3, hb3⟩
    have HC3 := Aside0.mk hC3
    have HB3 := Aside0.mk (below_step HB2.out hb3)
    have HX3 := Aside0.mk (blk_below HX.out hb3)
    have HY3 := Aside0.mk (blk_below HY.out hb3)
    clear hC3 hb3 HX HY HB2
    go_wp2_with fail
    refine (same_at A1 A3 c1 c3 (view l) w3 (Kd.C_below HC1.out HB3.out) hle1 HC3.out hle3 (by omega)).mono ?_
    rintro e w4 ⟨rfl, hb4⟩
    have HB4 := Aside0.mk (below_step HB3.out hb4)
    have HX4 := Aside0.mk (blk_below HX3.out hb4)
    have HY4 := Aside0.mk (blk_below HY3.out hb4)
    clear hb4 HX3 HY3 HB3
    go_wp2_with fail
    have HT := Aside0.mk (show Kd.C (Kd.slice 24 k24) w4 (some ⟨w1.heap.size, 0, none⟩) [l.take q, view l, view l].length [l.take q, view l, view l] from C_lit HX4.out [l.take q, view l, view l] (by simp) (fun j xs hj => by
      have hv4 := Kd.C_below HC1.out HB4.out
      have hlt : (l.take q).length = q := by rw [List.length_take]; omega
      match j, hj with
      | 0, hj =>
        obtain rfl := Option.some.inj hj
        exact ⟨A0, c0, by rw [hlt]; rfl, by omega, Kd.C_take (Kd.C_below HC.out (below_step HB.out HB4.out)) hql⟩
      | 1, hj => obtain rfl := Option.some.inj hj; exact ⟨A1, c1, rfl, hle1, hv4⟩
      | 2, hj => obtain rfl := Option.some.inj hj; exact ⟨A1, c1, rfl, hle1, hv4⟩
      | j + 3, hj => simp at hj))
    refine (merge_at _ _ [l.take q, view l, view l] _ rfl HT.out (Nat.le_refl _) (by simp) (by simp; omega)).mono ?_
    rintro e w5 ⟨A5, c5, rfl, hle5, hC5, hb5⟩
    simp only [List.flatten_cons, List.flatten_nil, List.append_nil, view_three] at hle5 hC5 ⊢
    have HC5 := Aside0.mk hC5
    have HB5 := Aside0.mk (below_step HB4.out hb5)
    have HY5 := Aside0.mk (blk_below HY4.out hb5)
    clear hC5 hb5 HT HX4 HY4 HB4
    go_wp2_with fail
    refine (same_at A5 A1 c5 c1 (view l) w5 HC5.out hle5 (Kd.C_below HC1.out HB5.out) hle1 (by omega)).mono ?_
    rintro e w6 ⟨rfl, hb6⟩
    have HB6 := Aside0.mk (below_step HB5.out hb6)
    have HY6 := Aside0.mk (blk_below HY5.out hb6)
    clear hb6 HY5 HB5 HC5
    go_wp2_with fail
    have HT := Aside0.mk (show Kd.C (Kd.slice 24 k24) w6 (some ⟨w1.heap.size + 1, 0, none⟩) [view l].length [view l] from C_lit HY6.out [view l] (by simp) (fun j xs hj => by
      match j, hj with
      | 0, hj => obtain rfl := Option.some.inj hj; exact ⟨A1, c1, rfl, hle1, Kd.C_below HC1.out HB6.out⟩
      | j + 1, hj => simp at hj))
    refine (merge_at _ _ [view l] _ rfl HT.out (Nat.le_refl _) (by simp) (by simp; omega)).mono ?_
    rintro e w7 ⟨A7, c7, rfl, hle7, hC7, hb7⟩
    simp only [List.flatten_cons, List.flatten_nil, List.append_nil, view_of_view] at hle7 hC7 ⊢
    have HC7 := Aside0.mk hC7
    have HB7 := Aside0.mk (below_step HB6.out hb7)
    clear hC7 hb7 HT HY6 HB6
    go_wp2_with fail
    refine (same_at A7 A1 c7 c1 (view l) w7 HC7.out hle7 (Kd.C_below HC1.out HB7.out) hle1 (by omega)).mono ?_
    rintro e w8 ⟨rfl, hb8⟩
    have HB8 := Aside0.mk (below_step HB.out (below_step HB7.out hb8))
    clear hb8 HB7 HC7
    go_wp2
    go_ret
    exact ⟨rfl, HB8.out⟩
end Go.Proofs.Ytfamnbejimbenaa.X
