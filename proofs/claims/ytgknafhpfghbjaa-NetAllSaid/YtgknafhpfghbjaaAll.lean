/- NetAll, walked. -/
import Derived.Test.YtgknafhpfghbjaaIMap
import Derived.OpenShut
import Derived.Deep.DeepCutAuto
set_option linter.unusedVariables false
set_option linter.unusedSimpArgs false
namespace Go.Proofs.Ytgknafhpfghbjaa.X
open Go.RowKit Go.Proofs.Ytgknafhpfghbjaa.B Go.Proofs.Ytgknafhpfghbjaa Go.Proofs.YtgknafhpfghbjaaW.PrintWords Go.Proofs.YtgknafhpfghbjaaW.PrintLast Go.Proofs.YtgknafhpfghbjaaW.PrintMore

theorem keep_apart (tt : Nat → Int) (l : List (List Int)) (a n : Nat) : (keep tt l a n).Pairwise (fun x y => x.f0 ≠ y.f0) := by
  unfold keep
  rw [List.pairwise_map]
  refine (List.Pairwise.filter _ (List.pairwise_lt_range' (step := 1))).imp ?_
  intro i j hij he
  have : (i : Int) = (j : Int) := he
  omega
theorem cons_erase_perm {α : Type} : ∀ (l : List α) (j : Nat) (h : j < l.length), (l[j] :: l.eraseIdx j).Perm l
  | a :: r, 0, _ => List.Perm.refl _
  | a :: r, j + 1, h => by
    simp only [List.getElem_cons_succ, List.eraseIdx_cons_succ]
    exact (List.Perm.swap a _ _).trans ((cons_erase_perm r j (by simpa using h)).cons a)
/-- What holds when i packets have been taken. -/
structure AllI (l : List (List Int)) (want i : Nat) (xs : List S32) (f : Int → Int) (hs : Int → Bool) : Prop where
  cnt : xs.length + i = want
  mem : ∀ x ∈ xs, ∃ j, j < l.length ∧ x = pk (fun _ => 0) l j
  nd : xs.Pairwise (fun x y => x.f0 ≠ y.f0)
  fresh : ∀ x ∈ xs, f x.f0 = 0 ∧ hs x.f0 = false
theorem all_start (l : List (List Int)) : AllI l (keep (fun _ => 0) l 0 l.length).length 0 (keep (fun _ => 0) l 0 l.length) (fun _ => 0) (fun _ => false) :=
  ⟨rfl, fun x hx => by obtain ⟨j, _, hj, rfl, _⟩ := keep_mem _ hx; exact ⟨j, by omega, rfl⟩, keep_apart _ _ _ _, fun _ _ => ⟨rfl, rfl⟩⟩
theorem all_step {l : List (List Int)} {want i : Nat} {xs : List S32} {f : Int → Int} {hs : Int → Bool} (h : AllI l want i xs f hs) (j : Nat) (hj : j < xs.length) :
    ∃ q, q < l.length ∧ xs[j] = pk (fun _ => 0) l q ∧ f (q : Int) = 0 ∧ hs (q : Int) = false ∧ AllI l want (i + 1) (xs.eraseIdx j) (upd f (q : Int) 1) (upb hs (q : Int)) := by
  have hm := List.getElem_mem hj
  obtain ⟨q, hq, he⟩ := h.mem _ hm
  have hf := h.fresh _ hm
  rw [he] at hf
  refine ⟨q, hq, he, hf.1, hf.2, ?_, fun x hx => h.mem x (List.mem_of_mem_eraseIdx hx), h.nd.sublist (List.eraseIdx_sublist ..), fun x hx => ?_⟩
  · have := h.cnt
    rw [List.length_eraseIdx_of_lt hj]
    omega
  · have hp := (cons_erase_perm xs j hj).symm.pairwise h.nd (fun {_ _} hab hba => hab hba.symm)
    have hne := (List.pairwise_cons.1 hp).1 x hx
    rw [he] at hne
    have hne2 : x.f0 ≠ (q : Int) := fun e => hne e.symm
    have := h.fresh x (List.mem_of_mem_eraseIdx hx)
    simp [upd, upb, hne2, this]
/-- A packet that has been taken into a cell of its own, block b. -/
def Got (w W : World) (g bm b i : Nat) (x : S32) (A : Option Addr) (c : Nat) (xs : List S32) (f : Int → Int) (hs : Int → Bool) : Prop :=
  One w W g xs ∧ IMap W bm i f hs i ∧ W.heap[b]? = some (.cells #[.int .i64 x.f0, .int .i64 x.f1, .slice A x.f2.length c] 32) ∧ ∃ base ok, (Kd.int .u8).R 5 W base ok (.slice A x.f2.length c) x.f2
theorem got_new {w wr w2 : World} {g bm i : Nat} {v : Value} {xs ys : List S32} {f : Int → Int} {hs : Int → Bool} {x : S32} {A : Option Addr} {c : Nat} (hN : Net 51 wr w.heap.size g (fun _ => True) v xs) (hB : Below w.heap.size w wr) (hM : IMap wr bm i f hs i) (hp : NPost 51 wr w2 w.heap.size g (fun _ => True) v ys) {ok : Nat → Prop}
    (hu : (Kd.int .u8).R 5 w2 w.heap.size ok (.slice A x.f2.length c) x.f2) : Got w (w2.alloc (.cells #[.int .i64 x.f0, .int .i64 x.f1, .slice A x.f2.length c] 32)) g bm w2.heap.size i x A c ys f hs :=
  ⟨(One.post hB hp).below (below_alloc (Below.refl _ _) _), (hM.net hN hp.kept_).below (below_alloc (Below.refl _ _) _), blk_new _ _, _, _, Kd.R_below hu (below_alloc (Below.refl _ _) _)⟩
theorem got_old {w wr w2 : World} {g bm i b : Nat} {v : Value} {xs ys : List S32} {f : Int → Int} {hs : Int → Bool} {x : S32} {A : Option Addr} {c : Nat} (hN : Net 51 wr w.heap.size g (fun k => k ≠ b) v xs) (hB : Below w.heap.size w wr) (hM : IMap wr bm i f hs i) (hx : wr.heap[b]? = some (.cells #[.int .i64 0, .int .i64 0, .slice none 0 0] 32)) (hp : NPost 51 wr w2 w.heap.size g (fun k => k ≠ b) v ys) {ok : Nat → Prop}
    (hu : (Kd.int .u8).R 5 w2 w.heap.size ok (.slice A x.f2.length c) x.f2) (hge : w.heap.size ≤ b) : Got w (((w2.setCell ⟨b, 0, none⟩ (.int .i64 x.f0)).setCell ⟨b, 1, none⟩ (.int .i64 x.f1)).setCell ⟨b, 2, none⟩ (.slice A x.f2.length c)) g bm b i x A c ys f hs := by
  have h2 := hp.blk_ hN hx (fun h => h rfl)
  have hbm : bm ≠ b := by
    obtain ⟨es, clock, hm⟩ := hM.map_
    rintro rfl
    rw [hx] at hm
    cases hm
  have hgb : g ≠ b := by
    rintro rfl
    have h3 := hN.box
    rw [hx] at h3
    injection h3 with h3
    injection h3 with _ h3
    cases h3
  obtain ⟨v1, h3⟩ := hp.net_
  have key : ∀ {W : World} {p : Addr} {u : Value}, p.block = b → Net 51 W w.heap.size g (fun k => k ≠ b) v1 ys → Net 51 (W.setCell p u) w.heap.size g (fun k => k ≠ b) v1 ys := fun {W p u} hpb h =>
    h.step (Below.heap_setCell W p u g (by rw [hpb]; exact hgb)) (fun k hk _ => Below.heap_setCell W p u k (by rw [hpb]; exact hk))
  refine ⟨⟨below_set (below_set (below_set (hB.trans hp.below_) hge) hge) hge, v1, (key rfl (key rfl (key rfl h3))).mono (fun _ _ => trivial)⟩, ?_, ?_, _, _, Kd.R_set (Kd.R_set (Kd.R_set hu h2 (by simp [Kd.int, Kd.scalar]) 0 _) (blk_set h2 0 _) (by simp [Kd.int, Kd.scalar]) 1 _) (blk_set (blk_set h2 0 _) 1 _) (by simp [Kd.int, Kd.scalar]) 2 _⟩
  · exact (hM.net hN hp.kept_).move (by rw [Below.heap_setCell _ _ _ _ hbm, Below.heap_setCell _ _ _ _ hbm, Below.heap_setCell _ _ _ _ hbm])
  · exact blk_put (blk_put (blk_put h2 0 _ rfl) 1 _ rfl) 2 _ rfl
theorem One.stored {w wc w3 : World} {g b : Nat} {xs : List S32} {es : Array MapEntry} {clock : Nat} (h : One w wc g xs) (hb : wc.heap[b]? = some (.map es clock)) (hg : wc.grownBy w3 (some b)) (hwb : w.heap.size ≤ b) : One w w3 g xs := by
  obtain ⟨h1, v, h2⟩ := h
  exact ⟨pw_below_grown h1 _ h1.size hg (fun k hk => by injection hk with hk; omega), v, h2.stored hb hg⟩
set_option maxRecDepth 100000 in
set_option maxHeartbeats 8000000 in
theorem all_calls (A0 : Option Addr) (c0 : Nat) (l : List (List Int)) (A1 : Option Addr) (c1 : Nat) (picks : List Int) (w : World) (hC0 : CL w A0 l) (hc0 : l.length ≤ c0) (hC1 : Kd.C (Kd.int .i64) w A1 picks.length picks) (hc1 : picks.length ≤ c1) (hwf : ∀ y ∈ picks, (Lit.int .i64 y).wf = true) :
    Calls Try.prog 3 #[.slice A0 l.length c0, .slice A1 picks.length c1] w fun e w' => e = .returned (.bool true) ∧ Below w.heap.size w w' := by
  have HC0 := Aside0.mk hC0
  have HC1 := Aside0.mk hC1
  have HWF := Aside0.mk hwf
  have hll := hC0.2.1
  have hpl := hC1.2.1
  clear hC0 hC1 hwf
  by_cases hm : 256 < l.length
  · have t1 : decide (256 < (l.length : Int)) = true := decide_eq_true (by omega)
    have t2 : decide (256 < l.length) = true := decide_eq_true hm
    go_enter Try.func3, Try.ntmps3
    go_wp2
    go_ret
    exact ⟨rfl, Below.refl _ _⟩
  · have t1 : decide (256 < (l.length : Int)) = false := decide_eq_false (by omega)
    have t2 : decide (256 < l.length) = false := decide_eq_false hm
    have hl : l.length ≤ 256 := by omega
    by_cases hf : picks.length < l.length
    · have t3 : decide ((picks.length : Int) < (l.length : Int)) = true := decide_eq_true (by omega)
      have t4 : decide (picks.length < l.length) = true := decide_eq_true hf
      go_enter Try.func3, Try.ntmps3
      go_wp2
      go_ret
      exact ⟨rfl, Below.refl _ _⟩
    · have t3 : decide ((picks.length : Int) < (l.length : Int)) = false := decide_eq_false (by omega)
      have t4 : decide (picks.length < l.length) = false := decide_eq_false hf
      have HO := Aside0.mk (one_new w)
      have hmm := @run_makeMap Try.prog
      go_enter Try.func3, Try.ntmps3
      go_wp2_with (refine (new_calls _).mono ?_; rintro e w1 ⟨rfl, rfl⟩)
      clear t1 t2 t3 t4
      go_loopw [6, 7] (fun v6 v7 wr => ∃ k : Nat, v6 = .int .i64 ((keep (fun _ => 0) l 0 k).length : Int) ∧ v7 = .int .i64 k ∧ k ≤ l.length ∧ Aside0 (One w wr w.heap.size (keep (fun _ => 0) l 0 k))) (fun _ v4 _ => l.length - (intOf v4).toNat)
      case atStart => exact ⟨0, rfl, rfl, by omega, HO⟩
      case round =>
        obtain ⟨k, rfl, rfl, hk, HK⟩ := hrel
        clear HO
        by_cases hlt : k < l.length
        · have t1 : decide ((k : Int) < (l.length : Int)) = true := decide_eq_true (by omega)
          have t2 : decide (k < l.length) = true := decide_eq_true hlt
          obtain ⟨hbk, v, hN⟩ := HK.out
          obtain ⟨ad, A2, c2, hA, hcs, hl2, hC2⟩ := at_row (Kd.C_below HC0.out hbk) k hlt
          subst hA
          obtain ⟨hs1, hs2⟩ := send_keep (fun _ => 0) l k (by omega) 0 rfl _ rfl
          have hlk := keep_len (fun _ => 0) l 0 k
          have HAT := Aside0.mk (fun (W : World) (hW : Below w.heap.size w W) => at_row (Kd.C_below HC0.out hW) k hlt)
          by_cases hd : 32768 < (l.getD k []).length
          · rw [keep_snoc_no _ _ hd] at hs1
            have HE := Aside0.mk (show keep (fun _ => 0) l 0 (k + 1) = keep (fun _ => 0) l 0 k from keep_snoc_no _ _ hd)
            generalize l.getD k [] = ds at hcs hl2 hC2 hs1 hs2 hd HAT
            rw [if_pos hd] at hs2
            generalize keep (fun _ => 0) l 0 k = xs at hN hs1 hs2 hlk HE ⊢
            have hn1 := hC2.2.1
            have HN := Aside0.mk hN
            have HB := Aside0.mk hbk
            have HC2 := Aside0.mk hC2
            have HS := Aside0.mk hs1
            have HSE := Aside0.mk hs2
            have hki : (k : Int) < (l.length : Int) := by omega
            have t5 : decide ((ds.length : Int) ≤ 32768) = false := decide_eq_false (by omega)
            have t6 : decide (ds.length ≤ 32768) = false := decide_eq_false (by omega)
            clear hN hbk hC2 hs1 hs2 HK
            go_wp2_with fail
            refine (send_calls HN.out HB.out.size (fun _ _ => trivial) _ _ A2 c2 ds (by omega) hl2 HC2.out).mono ?_
            rintro e w2 ⟨rfl, hp⟩
            rw [HSE.out]
            rw [HS.out] at hp
            have HP := Aside0.mk (One.post HB.out hp)
            obtain ⟨ad3, A3, c3, e3, hcs3, _, _⟩ := HAT.out w2 HP.out.1
            obtain rfl := Option.some.inj e3
            clear hp e3 hcs
            go_wp2
            go_roundw
            case rel => exact ⟨k + 1, by rw [HE.out], by go_num, by omega, by rw [HE.out]; exact HP⟩
            case measure => simp [intOf]; omega
          · rw [keep_snoc_yes _ _ (by omega)] at hs1
            have HE := Aside0.mk (show keep (fun _ => 0) l 0 (k + 1) = keep (fun _ => 0) l 0 k ++ [pk (fun _ => 0) l k] from keep_snoc_yes _ _ (by omega))
            generalize pk (fun _ => 0) l k = y at hs1 HE
            generalize l.getD k [] = ds at hcs hl2 hC2 hs1 hs2 hd HAT
            rw [if_neg hd] at hs2
            generalize keep (fun _ => 0) l 0 k = xs at hN hs1 hs2 hlk HE ⊢
            have hn1 := hC2.2.1
            have HN := Aside0.mk hN
            have HB := Aside0.mk hbk
            have HC2 := Aside0.mk hC2
            have HS := Aside0.mk hs1
            have HSE := Aside0.mk hs2
            have hki : (k : Int) < (l.length : Int) := by omega
            clear hN hbk hC2 hs1 hs2 HK
            go_wp2_with fail
            refine (send_calls HN.out HB.out.size (fun _ _ => trivial) _ _ A2 c2 ds (by omega) hl2 HC2.out).mono ?_
            rintro e w2 ⟨rfl, hp⟩
            rw [HSE.out]
            rw [HS.out] at hp
            have HP := Aside0.mk (One.post HB.out hp)
            clear hp
            go_wp2
            go_roundw
            case rel => exact ⟨k + 1, by rw [HE.out, List.length_append, List.length_singleton]; go_num, by go_num, by omega, by rw [HE.out]; exact HP⟩
            case measure => simp [intOf]; omega
        · have t1 : decide ((k : Int) < (l.length : Int)) = false := decide_eq_false (by omega)
          have t2 : decide (k < l.length) = false := decide_eq_false hlt
          obtain rfl : k = l.length := by omega
          have HALL := Aside0.mk (all_start l)
          have hlk := keep_len (fun _ => 0) l 0 l.length
          generalize keep (fun _ => 0) l 0 l.length = ks at HK HALL hlk ⊢
          go_wp2_with fail
          obtain ⟨wm, hwm⟩ : ∃ wm : World, wm = wr := ⟨_, rfl⟩
          subst hwm
          have HKM := Aside0.mk (HK.out.below (below_alloc (Below.refl _ _) (.map #[] 0)))
          have HMM := Aside0.mk (imap_new wm)
          have hkl : ks.length ≤ 256 := by omega
          have HWM := Aside0.mk HK.out.1.size
          clear t1 t2
          go_loopw [9] (fun v9 wr => ∃ i : Nat, v9 = .int .i64 i ∧ i ≤ l.length ∧ Aside0 (∃ xs f hs, AllI l ks.length i xs f hs ∧ One w wr w.heap.size xs ∧ IMap wr wm.heap.size i f hs i)) (fun v9 _ => l.length - (intOf v9).toNat)
          case atStart => exact ⟨0, rfl, by omega, ⟨_, _, _, HALL.out, HKM.out, HMM.out⟩⟩
          case round =>
            clear HK HALL HKM HMM
            obtain ⟨i, rfl, hi, HI⟩ := hrel
            obtain ⟨xs, f, hs, hA, hO, hM⟩ := HI.out
            obtain ⟨hb, v, hN⟩ := hO
            have hcnt := hA.cnt
            have HA := Aside0.mk hA
            have HN := Aside0.mk hN
            have HB := Aside0.mk hb
            have HM := Aside0.mk hM
            have hxl : xs.length ≤ 256 := by omega
            clear hA hb hN hM HI
            by_cases hgo : i < l.length ∧ 0 < xs.length
            · obtain ⟨hlt, hx0⟩ := hgo
              have t1 : decide ((i : Int) < (l.length : Int)) = true := decide_eq_true (by omega)
              have t2 : decide (i < l.length) = true := decide_eq_true hlt
              have t3 : decide (0 < (xs.length : Int)) = true := decide_eq_true (by omega)
              have t4 : decide (0 < xs.length) = true := decide_eq_true hx0
              go_wp2_with (refine (len_calls HN.out).mono ?_; rintro e w' ⟨rfl, hw'⟩; subst w')
              obtain ⟨ad, hA1, hpc⟩ := Kd.at_int (Kd.C_below HC1.out (below_drew HB.out)) (i : Int) (by omega) (by omega)
              subst hA1
              have hpw : -9223372036854775808 ≤ rd picks i ∧ rd picks i ≤ 9223372036854775807 := by
                have hmem : rd picks i ∈ picks := by
                  have : i < picks.length := by omega
                  simp [rd, List.getD_eq_getElem?_getD, List.getElem?_eq_getElem this]
                exact bounds_i64 (HWF.out _ hmem)
              obtain ⟨ad', hA1', hpcA⟩ := Kd.at_int (Kd.C_below HC1.out (below_drew (below_alloc HB.out (.cells #[.int .i64 0, .int .i64 0, .slice none 0 0] 32)))) (i : Int) (by omega) (by omega)
              obtain rfl := Option.some.inj hA1'
              simp only [Int.toNat_natCast] at hpc hpcA
              generalize rd picks i = p at hpc hpcA hpw
              have hm1 := Int.tmod_lt_of_pos p (show (0 : Int) < (xs.length : Int) by omega)
              have hm2 := Int.lt_tmod_of_pos p (show (0 : Int) < (xs.length : Int) by omega)
              obtain ⟨q, hq⟩ : ∃ q, q = p.tmod (xs.length : Int) := ⟨_, rfl⟩
              rw [← hq] at hm1 hm2
              obtain ⟨j, hj⟩ : ∃ j : Nat, (q + (xs.length : Int)) % (xs.length : Int) = (j : Int) := ⟨((q + (xs.length : Int)) % (xs.length : Int)).toNat, by have := Int.emod_nonneg (q + (xs.length : Int)) (show (xs.length : Int) ≠ 0 by omega); omega⟩
              have hjl : j < xs.length := by have := Int.emod_lt_of_pos (q + (xs.length : Int)) (show (0 : Int) < (xs.length : Int) by omega); omega
              have e1 : p.tmod (xs.length : Int) = q := hq.symm
              have e2 : IntKind.i64.wrap q = q := IntWalk.i64_in _ (by omega)
              have e3 : IntKind.i64.wrap (q + (xs.length : Int)) = q + (xs.length : Int) := IntWalk.i64_in _ (by omega)
              have e4 : (q + (xs.length : Int)).tmod (xs.length : Int) = (j : Int) := by rw [Int.tmod_eq_emod_of_nonneg (by omega)]; exact hj
              have e5 : IntKind.i64.wrap (j : Int) = (j : Int) := IntWalk.i64_in _ (by omega)
              obtain ⟨r, hr1, hr2, hr3, hr4, hA2⟩ := all_step HA.out j hjl
              have hat : isAt xs (j : Int) = true := by rw [isAt_true]; omega
              have hxj : rd_T32 xs (j : Int) = pk (fun _ => 0) l r := by rw [← hr2]; simp [rd_T32, List.getD_eq_getElem?_getD, List.getElem?_eq_getElem hjl]
              have HTP := Aside0.mk (show takeP xs (j : Int) = pk (fun _ => 0) l r by simp [takeP, hat, hxj])
              have HTE := Aside0.mk (show takeE xs (j : Int) = 0 by simp [takeE, hat])
              have HTL := Aside0.mk (show takeL xs (j : Int) = xs.eraseIdx j by simp [takeL, hat])
              have HA2 := Aside0.mk hA2
              have HNW := Aside0.mk (fun (W : World) (hW : Below wr.heap.size wr W) => HN.out.below hW)
              have HNB := Aside0.mk (HN.out.below (below_drew (Below.refl wr.heap.size wr)))
              have HBB := Aside0.mk (below_drew HB.out)
              have HMB := Aside0.mk (HM.out.below (below_drew (Below.refl wr.heap.size wr)))
              have HNA := Aside0.mk ((HN.out.bound.mono (ok' := fun k => k ≠ wr.heap.size) (fun k hk => by omega)).below (below_drew (below_alloc (Below.refl wr.heap.size wr) (.cells #[.int .i64 0, .int .i64 0, .slice none 0 0] 32))))
              have HBA := Aside0.mk (below_drew (below_alloc HB.out (.cells #[.int .i64 0, .int .i64 0, .slice none 0 0] 32)))
              have HMA := Aside0.mk (HM.out.below (below_drew (below_alloc (Below.refl wr.heap.size wr) (.cells #[.int .i64 0, .int .i64 0, .slice none 0 0] 32))))
              have HXA := Aside0.mk (blk_drew (blk_new wr (.cells #[.int .i64 0, .int .i64 0, .slice none 0 0] 32)))
              have HFA := Aside0.mk (show ∀ k, (wr.alloc (.cells #[.int .i64 0, .int .i64 0, .slice none 0 0] 32)).drew.heap.size ≤ k → k ≠ wr.heap.size from fun k hk => by simp at hk; omega)
              have HQ := Aside0.mk hq
              have HJ := Aside0.mk hj
              have HR3 := Aside0.mk hr3
              have HR4 := Aside0.mk hr4
              have hip : (i : Int) < (picks.length : Int) := by omega
              clear hq hj hr2 hr3 hr4 hA2 hxj hat HA HN HB HM
              have hwg : w.heap.size ≤ wr.heap.size := HBB.out.size
              have hxne : ¬ xs = [] := by intro h; rw [h] at hx0; simp at hx0
              go_cut [10, 11] (fun v10 v11 wc => ∃ (b10 : Nat) (A3 : Option Addr) (c3 : Nat), v10 = .pointer (some ⟨b10, 0, none⟩) ∧ v11 = .int .i64 0 ∧ Aside0 (Got w wc w.heap.size wm.heap.size b10 i (pk (fun _ => 0) l r) A3 c3 (xs.eraseIdx j) f hs))
              case first =>
                have tk1 : True := trivial
                go_region_law (first | (clear tk1; refine goes_ Try.func10 (by kernel_rfl) rfl #[.pointer (some ⟨w.heap.size, 0, none⟩)] (by rfl) rfl rfl (by simp only [List.map_toArray, List.map_cons, List.map_nil]; rfl) ?_; refine (len_calls (HNW.out _ (by first | exact below_drew (Below.refl _ _) | exact below_drew (below_alloc (Below.refl _ _) _)))).mono ?_; rintro e w' ⟨rfl, hw'⟩; subst w'; refine ⟨_, rfl, ?_⟩; have tk2 : True := trivial) | (clear tk2; refine goes_ Try.func10 (by kernel_rfl) rfl #[.pointer (some ⟨w.heap.size, 0, none⟩)] (by rfl) rfl rfl (by simp only [List.map_toArray, List.map_cons, List.map_nil]; rfl) ?_; refine (len_calls (HNW.out _ (by first | exact below_drew (Below.refl _ _) | exact below_drew (below_alloc (Below.refl _ _) _)))).mono ?_; rintro e w' ⟨rfl, hw'⟩; subst w'; refine ⟨_, rfl, ?_⟩; have tk3 : True := trivial) | (clear tk3; refine goes_ Try.func10 (by kernel_rfl) rfl #[.pointer (some ⟨w.heap.size, 0, none⟩)] (by rfl) rfl rfl (by simp only [List.map_toArray, List.map_cons, List.map_nil]; rfl) ?_; refine (len_calls (HNW.out _ (by first | exact below_drew (Below.refl _ _) | exact below_drew (below_alloc (Below.refl _ _) _)))).mono ?_; rintro e w' ⟨rfl, hw'⟩; subst w'; refine ⟨_, rfl, ?_⟩; have tk4 : True := trivial) | (clear tk4; refine goes_ Try.func11 (by kernel_rfl) rfl #[.pointer (some ⟨w.heap.size, 0, none⟩), .int .i64 (j : Int)] (by rfl) rfl rfl (by simp only [List.map_toArray, List.map_cons, List.map_nil]; rfl) ?_; (with_reducible refine (take_calls (w := wr.drew) (ok := fun _ => True) HNB.out HBB.out.size (fun _ _ => trivial) (j : Int)).mono ?_); rw [HTP.out, HTE.out, HTL.out]; rintro e w2 ⟨A3, c3, rfl, hl3, hu, hp⟩; refine ⟨_, rfl, ?_⟩; have HG := Aside0.mk (got_new (x := pk (fun _ => 0) l r) (A := A3) (c := c3) HNB.out HBB.out HMB.out hp hu); clear hu hp) | (clear tk4; refine goes_ Try.func11 (by kernel_rfl) rfl #[.pointer (some ⟨w.heap.size, 0, none⟩), .int .i64 (j : Int)] (by rfl) rfl rfl (by simp only [List.map_toArray, List.map_cons, List.map_nil]; rfl) ?_; (with_reducible refine (take_calls (w := (wr.alloc (.cells #[.int .i64 0, .int .i64 0, .slice none 0 0] 32)).drew) (ok := fun k => k ≠ wr.heap.size) HNA.out HBA.out.size HFA.out (j : Int)).mono ?_); rw [HTP.out, HTE.out, HTL.out]; rintro e w2 ⟨A3, c3, rfl, hl3, hu, hp⟩; refine ⟨_, rfl, ?_⟩; have HG := Aside0.mk (got_old (x := pk (fun _ => 0) l r) (A := A3) (c := c3) HNA.out HBA.out HMA.out HXA.out hp hu hwg); have hX2 := hp.blk_ HNA.out HXA.out (fun h => h rfl); have a0 := (blk_cell hX2 0).trans rfl; have a1 := (blk_cell hX2 1).trans rfl; have a2 := (blk_cell hX2 2).trans rfl; have f0 := blk_frozen hX2 0; have f1 := blk_frozen hX2 1; have f2 := blk_frozen hX2 2; clear hu hp hX2))
                all_goals (
                  go_simp
                  go_wp2_with (fail)
                  go_meet
                  case rel => exact ⟨_, _, _, rfl, rfl, HG⟩)
              case rest =>
                obtain ⟨b10, A3, c3, rfl, rfl, HG⟩ := hcut
                clear hpc hpcA HNW HNB HBB HMB HNA HBA HMA HXA HFA e1 e2 e3 e4 e5 hm1 hm2 HQ HJ HTP HTE HTL hpw
                obtain ⟨hO, hM, hx, base5, ok5, hR⟩ := HG.out
                have hx' : wc.heap[b10]? = some (.cells #[.int .i64 (r : Int), .int .i64 0, .slice A3 (l.getD r []).length c3] 32) := hx
                have hR' : (Kd.int .u8).R 5 wc base5 ok5 (.slice A3 (l.getD r []).length c3) (l.getD r []) := hR
                have HATR := Aside0.mk (fun (W : World) (hW : Below w.heap.size w W) => at_row (Kd.C_below HC0.out hW) r hr1)
                generalize l.getD r [] = ds at hx' hR' HATR
                have hlk := hM.look (r : Int) (wfi_of (by omega) (by omega))
                rw [HR3.out] at hlk
                have a0 := (blk_cell hx' 0).trans rfl
                have HM := Aside0.mk hM
                have HO := Aside0.mk hO
                have HX := Aside0.mk hx'
                have HR := Aside0.mk hR'
                clear hO hM hx hR hx' hR' HG
                go_wp2_with (at_mapUpdate; refine imap_put rfl _ _ _ rfl rfl HM.out (by omega) (r : Int) 1 rfl rfl (wfi_of (by omega) (by omega)) (wfi_of (by omega) (by omega)) ?_; intro w3 hm3 hg3; obtain ⟨es, clock, hmp⟩ := HM.out.map_; rw [HR4.out] at hm3; simp only [Bool.false_eq_true, if_false] at hm3; have HM3 := Aside0.mk hm3; have HO3 := Aside0.mk (HO.out.stored hmp hg3 HWM.out); have HX3 := Aside0.mk (cells_stored HX.out hmp hg3); have HR3' := Aside0.mk (R5_stored HR.out hmp hg3); clear hm3 hg3 hmp)
                have hm4 := HM3.out.below (below_drew (Below.refl w3.heap.size w3))
                have hlk3 := hm4.look (r : Int) (wfi_of (by omega) (by omega))
                rw [show upd f (r : Int) 1 (r : Int) = 1 by simp [upd]] at hlk3
                have b0 := (blk_cell HX3.out 0).trans rfl
                have b2 := (blk_cell HX3.out 2).trans rfl
                have k1 := conv_bytes c3 (Kd.C_below (Kd.R_reads' HR3'.out).2.2 (below_drew (Below.refl _ _)))
                obtain ⟨ad4, A4, c4, e4, hcs4, _, hC4⟩ := HATR.out _ (below_drew HO3.out.1)
                have k2 := conv_bytes c4 hC4
                subst e4
                have hrl : (r : Int) < (l.length : Int) := by omega
                have HO4 := Aside0.mk (HO3.out.below (below_drew (Below.refl _ _)))
                have HM4 := Aside0.mk hm4
                clear hm4 hC4 hlk a0
                go_region
                all_goals
                  go_wp2
                  go_roundw
                  case rel => exact ⟨i + 1, by go_num, by omega, ⟨_, _, _, HA2.out, HO4.out, HM4.out⟩⟩
                  case measure => simp [intOf]; omega
            · have hxs : xs = [] := by
                rcases Nat.lt_or_ge i l.length with h | h
                · have : ¬ 0 < xs.length := fun h2 => hgo ⟨h, h2⟩
                  exact List.eq_nil_of_length_eq_zero (by omega)
                · exact List.eq_nil_of_length_eq_zero (by omega)
              subst hxs
              obtain rfl : i = ks.length := by simp at hcnt; omega
              by_cases hlt : ks.length < l.length
              · have t1 : decide ((ks.length : Int) < (l.length : Int)) = true := decide_eq_true (by omega)
                have t2 : decide (ks.length < l.length) = true := decide_eq_true hlt
                go_wp2_with (refine (len_calls HN.out).mono ?_; rintro e w' ⟨rfl, hw'⟩; subst w')
                refine (take_calls HN.out HB.out.size (fun _ _ => trivial) 0).mono ?_
                have hz : isAt [] 0 = false := by simp [isAt]
                have h1 : takeP [] 0 = ⟨0, 0, []⟩ := by simp [takeP, hz, z32]
                have h2 : takeE [] 0 = 11 := by simp [takeE, hz]
                have h3 : takeL [] 0 = [] := by simp [takeL, hz]
                rw [h1, h2, h3]
                clear h1 h2 h3 hz
                rintro e w2 ⟨A2, c2, rfl, hl2, hu, hp⟩
                obtain ⟨hb5, v5, hN5⟩ := (One.post HB.out hp).below (below_alloc (Below.refl _ _) (.cells #[.int .i64 0, .int .i64 0, .slice A2 0 c2] 32))
                have hM5 := (HM.out.net HN.out hp.kept_).below (below_alloc (Below.refl _ _) (.cells #[.int .i64 0, .int .i64 0, .slice A2 0 c2] 32))
                have hlen := hM5.len 3
                have HN5 := Aside0.mk hN5
                have HB5 := Aside0.mk hb5
                clear hp hu hN5 hb5 hM5
                go_wp2_with fail
                refine (len_calls HN5.out).mono ?_
                rintro e w3 ⟨rfl, hw3⟩
                subst w3
                go_wp2
                go_ret
                exact ⟨rfl, HB5.out⟩
              · have t1 : decide ((ks.length : Int) < (l.length : Int)) = false := decide_eq_false (by omega)
                have t2 : decide (ks.length < l.length) = false := decide_eq_false hlt
                go_wp2_with fail
                refine (take_calls HN.out HB.out.size (fun _ _ => trivial) 0).mono ?_
                have hz : isAt [] 0 = false := by simp [isAt]
                have h1 : takeP [] 0 = ⟨0, 0, []⟩ := by simp [takeP, hz, z32]
                have h2 : takeE [] 0 = 11 := by simp [takeE, hz]
                have h3 : takeL [] 0 = [] := by simp [takeL, hz]
                rw [h1, h2, h3]
                clear h1 h2 h3 hz
                rintro e w2 ⟨A2, c2, rfl, hl2, hu, hp⟩
                obtain ⟨hb5, v5, hN5⟩ := (One.post HB.out hp).below (below_alloc (Below.refl _ _) (.cells #[.int .i64 0, .int .i64 0, .slice A2 0 c2] 32))
                have hM5 := (HM.out.net HN.out hp.kept_).below (below_alloc (Below.refl _ _) (.cells #[.int .i64 0, .int .i64 0, .slice A2 0 c2] 32))
                have hlen := hM5.len 3
                have HN5 := Aside0.mk hN5
                have HB5 := Aside0.mk hb5
                clear hp hu hN5 hb5 hM5
                go_wp2_with fail
                refine (len_calls HN5.out).mono ?_
                rintro e w3 ⟨rfl, hw3⟩
                subst w3
                go_wp2
                go_ret
                exact ⟨rfl, HB5.out⟩
end Go.Proofs.Ytgknafhpfghbjaa.X
