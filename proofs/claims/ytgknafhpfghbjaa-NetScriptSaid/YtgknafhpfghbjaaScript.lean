/- NetScript, walked. -/
import Derived.Test.YtgknafhpfghbjaaBrow
import Derived.Deep.DeepCutAuto
import Derived.Deep.RegionHeld3
import Derived.OpenShut
set_option linter.unusedVariables false
set_option linter.unusedSimpArgs false
namespace Go.Proofs.Ytgknafhpfghbjaa.X
open Go.RowKit Go.Proofs.Ytgknafhpfghbjaa.B Go.Proofs.Ytgknafhpfghbjaa Go.Proofs.YtgknafhpfghbjaaW.PrintWords Go.Proofs.YtgknafhpfghbjaaW.PrintLast Go.Proofs.YtgknafhpfghbjaaW.PrintMore

/-- The block of a row of bytes. -/
def Own (A : Option Addr) : Nat → Prop := fun k => ∃ ad, A = some ad ∧ ad.block = k
theorem own_R {w : World} {base n c : Nat} {ok : Nat → Prop} {A : Option Addr} {bs : List Int} (h : (Kd.int .u8).R 5 w base ok (.slice A n c) bs) (k : Nat) (hk : Own A k) : base ≤ k ∧ k < w.heap.size ∧ ∃ cells, w.heap[k]? = some (.cells cells 5 (0, 0)) := by
  obtain ⟨ad, rfl, rfl⟩ := hk
  obtain ⟨_, inner, ho, _⟩ := h
  exact ⟨own_base ho _ rfl, own_lt ho _ rfl, own_typed ho _ rfl⟩
set_option maxRecDepth 100000 in
set_option maxHeartbeats 16000000 in
theorem script_calls (A0 : Option Addr) (c0 : Nat) (s : List S40) (w : World) (hC0 : Kd.C k40 w A0 s.length s) (hc0 : s.length ≤ c0) (hl : s.length ≤ 140737488355328) :
    Calls Try.prog 7 #[.slice A0 s.length c0] w fun e w' => e = .returned (.bool true) ∧ Below w.heap.size w w' := by
  have HC0 := Aside0.mk hC0
  obtain ⟨r0, hr0, hk0⟩ := heavy_calls A0 c0 s w hC0 hc0 hl
  have HK := Aside0.mk hk0
  clear hk0 hC0
  cases r0 with
  | true =>
    clear hr0
    go_enter Try.func7, Try.ntmps7
    go_wp2_with (refine HK.out.mono ?_; rintro e w1 ⟨rfl, hb1⟩; have HB := Aside0.mk hb1; clear hb1 HK)
    go_ret
    exact ⟨rfl, HB.out⟩
  | false =>
    obtain ⟨hsl, hsd⟩ := hr0 rfl
    have HSD := Aside0.mk hsd
    clear hr0 hsd
    go_enter Try.func7, Try.ntmps7
    go_wp2_with (first | (refine HK.out.mono ?_; rintro e w1 ⟨rfl, hb1⟩; have HB := Aside0.mk hb1; clear hb1 HK) | (refine (new_calls _).mono ?_; rintro e w2 ⟨rfl, hw2⟩; subst w2))
    have HT0 := Aside0.mk (show Two w ((w1.alloc (.cells #[.slice none 0 0] 51)).alloc (.cells #[.slice none 0 0] 49)) w1.heap.size (w1.heap.size + 1) (fun _ => False) [] [] (.slice none 0 0) (.slice none 0 0) from
      ⟨below_alloc (below_alloc HB.out _) _, (new_net w1 w.heap.size _ HB.out.size 51 (.inl rfl)).alloc _, by have h := new_net (w1.alloc (.cells #[.slice none 0 0] 51)) w.heap.size (Off (.slice none 0 0) (fun _ => False)) (Nat.le_trans HB.out.size (by simp)) 49 (.inr rfl); simpa using h, fun _ hk => hk.elim⟩)
    go_loopw [5] (fun v5 wr => ∃ i : Nat, v5 = .int .i64 i ∧ i ≤ s.length ∧ Aside0 (∃ xs v u, Two w wr w1.heap.size (w1.heap.size + 1) (fun _ => False) xs xs v u)) (fun v5 _ => s.length - (intOf v5).toNat)
    case atStart => exact ⟨0, rfl, by omega, ⟨_, _, _, HT0.out⟩⟩
    case round =>
      clear HT0
      obtain ⟨i, rfl, hi, HI⟩ := hrel
      obtain ⟨xs, v, u, hT⟩ := HI.out
      have HT0 := Aside0.mk hT
      clear hT HI
      by_cases hlt : i < s.length
      · have t1 : decide ((i : Int) < (s.length : Int)) = true := decide_eq_true (by omega)
        have t2 : decide (i < s.length) = true := decide_eq_true hlt
        have hil : (i : Int) < (s.length : Int) := by omega
        obtain ⟨ad, A3, c3, hA, e0', e1', e2', e3', hl3, hC3⟩ := at_step HC0.out i hlt
        have e0 := pw_cell_below HT0.out.below e0'
        have e1 := pw_cell_below HT0.out.below e1'
        have e2 := pw_cell_below HT0.out.below e2'
        have e3 := pw_cell_below HT0.out.below e3'
        clear e0' e1' e2' e3'
        subst hA
        have hdl := HSD.out i hlt
        generalize (s.getD i z40).f0 = k0 at e0
        generalize (s.getD i z40).f1 = k1 at e1
        generalize (s.getD i z40).f2 = k2 at e2
        generalize (s.getD i z40).f3 = ds at e3 hl3 hC3 hdl
        have HCD := Aside0.mk hC3
        have hX1 := blk_new wr (.cells #[.int .i64 k0, .int .i64 k1, .int .i64 k2, .slice A3 ds.length c3] 40)
        have HX1 := Aside0.mk hX1
        have HBW := Aside0.mk (below_alloc (Below.refl wr.heap.size wr) (.cells #[.int .i64 k0, .int .i64 k1, .int .i64 k2, .slice A3 ds.length c3] 40))
        have hwl : w1.heap.size + 1 < wr.heap.size := HT0.out.r.lt
        have hw1l : w.heap.size ≤ w1.heap.size := HB.out.size
        clear hC3 hX1
        go_upto_region 13 with (first | ((with_reducible refine gate_dst (N := 38) rfl ?_); refine Kd.R_lit (Kd.int .u8) _ 5 ?hg (N := 38) ?hd (xs := ([] : List Int)) (inner := []) (ok := fun _ => True) (okp := fun _ => True) ?hr ?hp (fun _ hk => hk) trivial (Below.refl _ _) (Nat.le_refl _) (by simp) ?_; (case hd => rfl); (case hg => rfl); (case hr => first | (go_simp; done) | (go_simp; rfl)); (case hp => exact (Reps.none _ _)); intro v7 w4 ho5 hb hg_ hnew_; clear hg_ hnew_; have HOb := Aside0.mk ho5; have HXb := Aside0.mk hb; have o3 := (blk_cell (blk_below HX1.out hb) 3).trans rfl; clear hb ho5) | ((with_reducible refine gate_builtin (b := .append) (xs := #[.tmp 39, .tmp 41]) rfl ?_); at_builtin; refine Kd.R_append_rows (Kd.int .u8) (w0 := wr.alloc (.cells #[.int .i64 k0, .int .i64 k1, .int .i64 k2, .slice A3 ds.length c3] 40)) (wr.alloc (.cells #[.int .i64 k0, .int .i64 k1, .int .i64 k2, .slice A3 ds.length c3] 40)).heap.size rfl (.tmp 39) (.tmp 41) 28 5 (.int .u8 0) 1 rfl Try.underlying28 info5 rfl (by decide) (by decide) v7 [] ds _ _ _ (fun _ => True) (fun _ => False) rfl rfl HOb.out ?aR (fun x cs h => h) (fun _ h => h.elim) (fun _ _ => trivial) HXb.out (below_size HXb.out) ?aL ?_; (case aR => exact Kd.C_below HCD.out (below_step (below_step HT0.out.below HBW.out) HXb.out)); (case aL => simp; omega); intro v8 w5 ho hb hg hat; rw [List.nil_append] at ho; have HR5 := Aside0.mk ho; have HX5 := Aside0.mk hb; clear HOb HXb ho hb hg hat))
        obtain ⟨A7, c7, hv8, hl7, _⟩ := Kd.R_reads HR5.out
        subst hv8
        have HB5 := Aside0.mk (below_step HBW.out HX5.out)
        have hX5 := blk_below HX1.out HX5.out
        have HX6 := Aside0.mk hX5
        have hz1 : (wr.alloc (.cells #[.int .i64 k0, .int .i64 k1, .int .i64 k2, .slice A3 ds.length c3] 40)).heap.size = wr.heap.size + 1 := by simp
        have HOW := Aside0.mk (show ∀ k, Own A7 k → wr.heap.size + 1 ≤ k ∧ k < w5.heap.size ∧ ∃ cells, w5.heap[k]? = some (.cells cells 5 (0, 0)) from fun k hk => by have := own_R HR5.out k hk; rw [hz1] at this; exact this)
        have HT5 := Aside0.mk (HT0.out.wide (E' := Own A7) HB5.out (fun k hk => ⟨.inr (by have := HOW.out k hk; omega), (HOW.out k hk).2.1⟩))
        have a0 := (blk_cell hX5 0).trans rfl
        have a1 := (blk_cell hX5 1).trans rfl
        have a2 := (blk_cell hX5 2).trans rfl
        have a3 := (blk_cell hX5 3).trans rfl
        clear hX5 hz1
        by_cases hk : k0 = 0
        · subst hk
          go_upto_region 15 with fail
          have HR6 := Aside0.mk (show (Kd.int .u8).R 5 w5.drew (wr.heap.size + 1) (fun _ => True) (.slice A7 ds.length c7) ds from by have h := HR5.out; simp at h; exact Kd.R_below h (below_drew (Below.refl _ _)))
          have HT6 := Aside0.mk (HT5.out.wide (E' := Own A7) (below_drew (Below.refl _ _)) (fun k hk => ⟨.inl hk, (HOW.out k hk).2.1⟩))
          go_cut [70] (fun v70 wc => v70 = .bool false ∧ Aside0 (∃ v u, Two w wc w1.heap.size (w1.heap.size + 1) (Own A7) (sendL xs k1 k2 ds) (sendL xs k1 k2 ds) v u) ∧ Aside0 ((Kd.int .u8).R 5 wc (wr.heap.size + 1) (fun _ => True) (.slice A7 ds.length c7) ds))
          case first =>
            have hS0 := (blk_cell (blk_drew HX6.out) 1).trans rfl
            have hS1 := (blk_cell (blk_drew HX6.out) 2).trans rfl
            have hS2 := (blk_cell (blk_drew HX6.out) 3).trans rfl
            have hS3 := conv_bytes c7 (Kd.R_reads' HR6.out).2.2
            have hS4 := conv_bytes c3 (Kd.C_below HCD.out HT6.out.below)
            clear a0 a1 a2 a3
            go_region_held3 (fun w' => w'.cell? ⟨wr.heap.size, 1, none⟩ = some (.int .i64 k1) ∧ w'.cell? ⟨wr.heap.size, 2, none⟩ = some (.int .i64 k2) ∧ w'.cell? ⟨wr.heap.size, 3, none⟩ = some (.slice A3 ds.length c3) ∧ (convert 28 9 (.slice A7 ds.length c7)).run Try.prog w' = .ok (.string (strOfNums ds)) w' ∧ (convert 28 9 (.slice A3 ds.length c3)).run Try.prog w' = .ok (.string (strOfNums ds)) w') (first | (refine ⟨?_, ?_, ?_, ?_, ?_⟩ <;> assumption) | go_keep) (first | (go_at_call 9; refine (send_calls HT6.out.n HT6.out.below.size HT6.out.freshN k1 k2 A7 c7 ds (by omega) hl7 (Kd.R_reads' HR6.out).2.2).mono ?_; rintro e w6 ⟨rfl, hp⟩; obtain ⟨v6, hT7⟩ := HT6.out.stepN hp; have HT7 := Aside0.mk hT7; have hX7 := hp.other_ HT6.out.n (blk_drew HX6.out) (by decide) (by decide); have b1 := (blk_cell hX7 1).trans rfl; have b2 := (blk_cell hX7 2).trans rfl; have b3 := (blk_cell hX7 3).trans rfl; have HX7 := Aside0.mk hX7; have HR7 := Aside0.mk (hp.data_ HT6.out.n HR6.out); have f1 := conv_bytes c7 (Kd.R_reads' HR7.out).2.2; have f2 := conv_bytes c3 (Kd.C_below HCD.out hT7.below); clear hp hT7 hX7) | (go_at_call 17; refine (refsend_calls HT7.out.r HT7.out.below.size HT7.out.freshR k1 k2 A3 c3 ds (by omega) hl3 (Kd.C_below HCD.out HT7.out.below)).mono ?_; rintro e w7 ⟨rfl, hp⟩; obtain ⟨u7, hT8⟩ := HT7.out.stepR hp; have HT8 := Aside0.mk hT8; have hX8 := hp.other_ HT7.out.r HX7.out (by decide) (by decide); have d1 := (blk_cell hX8 1).trans rfl; have d2 := (blk_cell hX8 2).trans rfl; have d3 := (blk_cell hX8 3).trans rfl; have HR8 := Aside0.mk (hp.data_ HT7.out.r HR7.out); have g1 := conv_bytes c7 (Kd.R_reads' HR8.out).2.2; have g2 := conv_bytes c3 (Kd.C_below HCD.out hT8.below); clear hp hT8 hX8))
            all_goals (
              go_simp
              go_wp2_with (fail)
              go_meet
              case rel => exact ⟨rfl, ⟨_, _, HT8.out⟩, HR8⟩)
          case rest =>
            obtain ⟨rfl, HTc, HRc⟩ := hcut
            obtain ⟨v9, u9, hT9⟩ := HTc.out
            have HT9 := Aside0.mk hT9
            generalize sendL xs k1 k2 ds = zs at HT9
            clear hT9 HTc HT5 HR5 HX5 HB5 HX6 a0 a1 a2 a3
            have HOWc := Aside0.mk (fun k hk => own_R HRc.out k hk)
            have HST := Aside0.mk (show ds.length = 0 ∨ ∃ gb, A7 = some ⟨gb, 0, none⟩ ∧ ∃ bs : List Int, bs.length = ds.length ∧ BRow wc gb c7 bs from by
              rcases brow_of_R HRc.out with ⟨_, h0⟩ | ⟨gb, c, he, _, _, hrow⟩
              · exact .inl (by rw [h0]; rfl)
              · injection he with h1 h2 h3
                subst h3
                exact .inr ⟨gb, h1, ds, rfl, hrow⟩)
            go_wp2_with fail
            go_loopw [8] (fun v8 wq => ∃ k : Nat, v8 = .int .i64 k ∧ k ≤ ds.length ∧ Aside0 (ds.length = 0 ∨ ∃ gb, A7 = some ⟨gb, 0, none⟩ ∧ ∃ bs : List Int, bs.length = ds.length ∧ BRow wq gb c7 bs) ∧ Aside0 (Below w.heap.size wc wq) ∧ Aside0 (Kept wc wq (Own A7))) (fun v8 _ => ds.length - (intOf v8).toNat)
            case atStart => exact ⟨0, rfl, by omega, HST, ⟨Below.refl _ _⟩, ⟨Kept.refl _ _⟩⟩
            case round =>
              obtain ⟨k, rfl, hk, HYS, HXB, HXK⟩ := hrel
              by_cases hltk : k < ds.length
              · have t5 : decide ((k : Int) < (ds.length : Int)) = true := decide_eq_true (by omega)
                have t6 : decide (k < ds.length) = true := decide_eq_true hltk
                rcases HYS.out with h0 | ⟨gb, hA7, ys, hys, hyr⟩
                · omega
                · subst hA7
                  obtain ⟨y, hy⟩ : ∃ y, ys[k]? = some y := ⟨_, List.getElem?_eq_getElem (by omega)⟩
                  have hcx := hyr.cell hy
                  have hfx := hyr.free k
                  have hlk : (k : Int) < (ds.length : Int) := by omega
                  have HS1 := Aside0.mk (fun v => hyr.set k v)
                  have HYL := Aside0.mk hys
                  have hwgb : w.heap.size ≤ gb := by have := (HOWc.out gb ⟨_, rfl, rfl⟩).1; omega
                  clear hy hyr hys HYS
                  go_wp2
                  go_roundw
                  case rel => exact ⟨k + 1, by go_num, by omega, ⟨.inr ⟨gb, rfl, _, by rw [List.length_set]; exact HYL.out, HS1.out _⟩⟩, ⟨HXB.out.setCell (p := ⟨gb, k, none⟩) hwgb _⟩, ⟨HXK.out.setCell (p := ⟨gb, k, none⟩) (.inl ⟨_, rfl, rfl⟩) _⟩⟩
                  case measure => simp [intOf]; omega
              · have t5 : decide ((k : Int) < (ds.length : Int)) = false := decide_eq_false (by omega)
                have t6 : decide (k < ds.length) = false := decide_eq_false hltk
                have HT := Aside0.mk ((HT9.out.aside HXB.out HXK.out (fun hk => by have := (HOWc.out _ hk).1; omega) (fun hk => by have := (HOWc.out _ hk).1; omega)).narrow (E' := fun _ => False) (fun _ hk => hk.elim))
                clear HYS HXB HXK HT9 HRc HOWc HST
                go_wp2_with fail
                have hzl := HT.out.n.le
                have HN9 := Aside0.mk (HT.out.n.below (below_drew (Below.refl _ _)))
                have hrc := (HT.out.r.below (below_drew (Below.refl _ _))).cell
                obtain ⟨AR, cR, hvR, hlR, _⟩ := HT.out.r.row.reads
                subst hvR
                have HTD := Aside0.mk (HT.out.wide (E' := fun _ => False) (below_drew (Below.refl _ _)) (fun _ hk => hk.elim))
                have tkl : True := trivial
                go_region_law (clear tkl; refine goes_ Try.func10 (by kernel_rfl) rfl #[.pointer (some ⟨w1.heap.size, 0, none⟩)] (by rfl) rfl rfl (by simp only [List.map_toArray, List.map_cons, List.map_nil]; rfl) ?_; refine (len_calls HN9.out).mono ?_; rintro e w' ⟨rfl, hw'⟩; subst w'; refine ⟨_, rfl, ?_⟩)
                all_goals
                  go_simp
                  go_wp2
                  go_roundw
                  case rel => exact ⟨i + 1, by go_num, by omega, ⟨_, _, _, HTD.out⟩⟩
                  case measure => simp [intOf]; omega
        · have hk' : (k0 == 0) = false := by simpa using hk
          have hkd : decide (k0 = 0) = false := decide_eq_false hk
          by_cases hq1 : k0 = 1
          · subst hq1
            obtain ⟨x, hxp⟩ : ∃ x, x = takeP xs k1 := ⟨_, rfl⟩
            have HXP := Aside0.mk hxp
            clear hxp
            obtain ⟨te, hte⟩ : ∃ te, te = takeE xs k1 := ⟨_, rfl⟩
            obtain ⟨zs, hzs⟩ : ∃ zs, zs = takeL xs k1 := ⟨_, rfl⟩
            have HTE := Aside0.mk hte
            have HTL := Aside0.mk hzs
            clear hte hzs
            go_wp2_with fail
            refine (take_calls HT5.out.n HT5.out.below.size HT5.out.freshN k1).mono ?_
            rw [← HXP.out, ← HTE.out, ← HTL.out]
            rintro e w6 ⟨A5, c5, rfl, hl5, hu, hp⟩
            obtain ⟨v6, hT6⟩ := HT5.out.stepN hp
            have hX7 := blk_alloc (hp.other_ HT5.out.n HX6.out (by decide) (by decide)) (.cells #[.int .i64 x.f0, .int .i64 x.f1, .slice A5 x.f2.length c5] 32)
            have b1 := (blk_cell hX7 1).trans rfl
            have HT7 := Aside0.mk (hT6.wide (E' := fun k => k = w6.heap.size) (below_alloc (Below.refl _ _) (.cells #[.int .i64 x.f0, .int .i64 x.f1, .slice A5 x.f2.length c5] 32)) (fun k hk => ⟨.inr (by omega), by simp; omega⟩))
            have HP7 := Aside0.mk (blk_new w6 (.cells #[.int .i64 x.f0, .int .i64 x.f1, .slice A5 x.f2.length c5] 32))
            have HU7 := Aside0.mk (Kd.R_below hu (below_alloc (Below.refl _ _) (.cells #[.int .i64 x.f0, .int .i64 x.f1, .slice A5 x.f2.length c5] 32)))
            clear hu hp hT6 hX7 a0 a1 a2 a3
            go_wp2_with fail
            refine (reftake_calls HT7.out.r HT7.out.below.size HT7.out.freshR k1).mono ?_
            rw [← HXP.out, ← HTE.out, ← HTL.out]
            rintro e w8 ⟨A6, c6, rfl, hl6, hu2, hp2⟩
            obtain ⟨u8, hT8⟩ := HT7.out.stepR hp2
            have hP9 := blk_alloc (HT7.out.blkR hp2 HP7.out rfl) (.cells #[.int .i64 x.f0, .int .i64 x.f1, .slice A6 x.f2.length c6] 32)
            have HU9 := Aside0.mk (Kd.R_below (hp2.data_ HT7.out.r HU7.out) (below_alloc (Below.refl _ _) (.cells #[.int .i64 x.f0, .int .i64 x.f1, .slice A6 x.f2.length c6] 32)))
            have HV9 := Aside0.mk (Kd.R_below hu2 (below_alloc (Below.refl _ _) (.cells #[.int .i64 x.f0, .int .i64 x.f1, .slice A6 x.f2.length c6] 32)))
            have HT9 := Aside0.mk (hT8.wide (E' := fun _ => False) (below_alloc (Below.refl _ _) (.cells #[.int .i64 x.f0, .int .i64 x.f1, .slice A6 x.f2.length c6] 32)) (fun _ hk => hk.elim))
            have p0 := (blk_cell hP9 0).trans rfl
            have p1 := (blk_cell hP9 1).trans rfl
            have p2 := (blk_cell hP9 2).trans rfl
            clear hu2 hp2 hT8 hP9 b1
            go_wp2_with fail
            refine (same_calls x A5 c5 A6 c6 _ (Kd.R_reads' HU9.out).2.2 hl5 (Kd.R_reads' HV9.out).2.2 hl6).mono ?_
            rintro e w10 ⟨rfl, hb10⟩
            have HT := Aside0.mk (HT9.out.wide (E' := fun _ => False) hb10 (fun _ hk => hk.elim))
            clear hb10 p0 p1 p2
            go_wp2_with fail
            have hzl := HT.out.n.le
            have HN9 := Aside0.mk (HT.out.n.below (below_drew (Below.refl _ _)))
            have hrc := (HT.out.r.below (below_drew (Below.refl _ _))).cell
            obtain ⟨AR, cR, hvR, hlR, _⟩ := HT.out.r.row.reads
            subst hvR
            have HTD := Aside0.mk (HT.out.wide (E' := fun _ => False) (below_drew (Below.refl _ _)) (fun _ hk => hk.elim))
            have tkl : True := trivial
            go_region_law (clear tkl; refine goes_ Try.func10 (by kernel_rfl) rfl #[.pointer (some ⟨w1.heap.size, 0, none⟩)] (by rfl) rfl rfl (by simp only [List.map_toArray, List.map_cons, List.map_nil]; rfl) ?_; refine (len_calls HN9.out).mono ?_; rintro e w' ⟨rfl, hw'⟩; subst w'; refine ⟨_, rfl, ?_⟩)
            all_goals
              go_simp
              go_wp2
              go_roundw
              case rel => exact ⟨i + 1, by go_num, by omega, ⟨_, _, _, HTD.out⟩⟩
              case measure => simp [intOf]; omega
          · have hr1 : (k0 == 1) = false := by simpa using hq1
            have hd1 : decide (k0 = 1) = false := decide_eq_false hq1
            by_cases hq2 : k0 = 2
            · subst hq2
              go_upto_region 27 with fail
              have HT6 := Aside0.mk (HT5.out.wide (E' := fun _ => False) (below_drew (Below.refl _ _)) (fun _ hk => hk.elim))
              go_cut [118] (fun v70 wc => v70 = .bool false ∧ Aside0 (∃ v u, Two w wc w1.heap.size (w1.heap.size + 1) (fun _ => False) (takeL xs k1) (takeL xs k1) v u))
              case first =>
                have hS0 := (blk_cell (blk_drew HX6.out) 1).trans rfl
                clear a0 a1 a2 a3
                go_region_held3 (fun w' => w'.cell? ⟨wr.heap.size, 1, none⟩ = some (.int .i64 k1)) (first | assumption | go_keep) (first | (go_at_call 15; refine (drop_calls HT6.out.n HT6.out.below.size HT6.out.freshN k1).mono ?_; rintro e w6 ⟨rfl, hp⟩; obtain ⟨v6, hT7⟩ := HT6.out.stepN hp; have HT7 := Aside0.mk hT7; have hX7 := hp.other_ HT6.out.n (blk_drew HX6.out) (by decide) (by decide); have b1 := (blk_cell hX7 1).trans rfl; have HX7 := Aside0.mk hX7; clear hp hT7 hX7) | (go_at_call 19; refine (refdrop_calls HT7.out.r HT7.out.below.size HT7.out.freshR k1).mono ?_; rintro e w7 ⟨rfl, hp⟩; obtain ⟨u7, hT8⟩ := HT7.out.stepR hp; have HT8 := Aside0.mk hT8; have hX8 := hp.other_ HT7.out.r HX7.out (by decide) (by decide); have d1 := (blk_cell hX8 1).trans rfl; clear hp hT8 hX8))
                all_goals (
                  go_simp
                  go_wp2_with (fail)
                  go_meet
                  case rel => exact ⟨rfl, ⟨_, _, HT8.out⟩⟩)
              case rest =>
                obtain ⟨rfl, HTc⟩ := hcut
                obtain ⟨v9, u9, hT9⟩ := HTc.out
                have HT := Aside0.mk hT9
                generalize takeL xs k1 = zs at HT
                clear hT9 HTc HT5 HT6 HR5 HX5 HB5 HX6 a0 a1 a2 a3
                go_wp2_with fail
                have hzl := HT.out.n.le
                have HN9 := Aside0.mk (HT.out.n.below (below_drew (Below.refl _ _)))
                have hrc := (HT.out.r.below (below_drew (Below.refl _ _))).cell
                obtain ⟨AR, cR, hvR, hlR, _⟩ := HT.out.r.row.reads
                subst hvR
                have HTD := Aside0.mk (HT.out.wide (E' := fun _ => False) (below_drew (Below.refl _ _)) (fun _ hk => hk.elim))
                have tkl : True := trivial
                go_region_law (clear tkl; refine goes_ Try.func10 (by kernel_rfl) rfl #[.pointer (some ⟨w1.heap.size, 0, none⟩)] (by rfl) rfl rfl (by simp only [List.map_toArray, List.map_cons, List.map_nil]; rfl) ?_; refine (len_calls HN9.out).mono ?_; rintro e w' ⟨rfl, hw'⟩; subst w'; refine ⟨_, rfl, ?_⟩)
                all_goals
                  go_simp
                  go_wp2
                  go_roundw
                  case rel => exact ⟨i + 1, by go_num, by omega, ⟨_, _, _, HTD.out⟩⟩
                  case measure => simp [intOf]; omega
            · have hr2 : (k0 == 2) = false := by simpa using hq2
              have hd2 : decide (k0 = 2) = false := decide_eq_false hq2
              by_cases hq3 : k0 = 3
              · subst hq3
                go_upto_region 30 with fail
                have HT6 := Aside0.mk (HT5.out.wide (E' := fun _ => False) (below_drew (Below.refl _ _)) (fun _ hk => hk.elim))
                go_cut [129] (fun v70 wc => v70 = .bool false ∧ Aside0 (∃ v u, Two w wc w1.heap.size (w1.heap.size + 1) (fun _ => False) (dblL xs k1) (dblL xs k1) v u))
                case first =>
                  have hS0 := (blk_cell (blk_drew HX6.out) 1).trans rfl
                  clear a0 a1 a2 a3
                  go_region_held3 (fun w' => w'.cell? ⟨wr.heap.size, 1, none⟩ = some (.int .i64 k1)) (first | assumption | go_keep) (first | (go_at_call 14; refine (double_calls HT6.out.n HT6.out.below.size HT6.out.freshN k1).mono ?_; rintro e w6 ⟨rfl, hp⟩; obtain ⟨v6, hT7⟩ := HT6.out.stepN hp; have HT7 := Aside0.mk hT7; have hX7 := hp.other_ HT6.out.n (blk_drew HX6.out) (by decide) (by decide); have b1 := (blk_cell hX7 1).trans rfl; have HX7 := Aside0.mk hX7; clear hp hT7 hX7) | (go_at_call 20; refine (refdouble_calls HT7.out.r HT7.out.below.size HT7.out.freshR k1).mono ?_; rintro e w7 ⟨rfl, hp⟩; obtain ⟨u7, hT8⟩ := HT7.out.stepR hp; have HT8 := Aside0.mk hT8; have hX8 := hp.other_ HT7.out.r HX7.out (by decide) (by decide); have d1 := (blk_cell hX8 1).trans rfl; clear hp hT8 hX8))
                  all_goals (
                    go_simp
                    go_wp2_with (fail)
                    go_meet
                    case rel => exact ⟨rfl, ⟨_, _, HT8.out⟩⟩)
                case rest =>
                  obtain ⟨rfl, HTc⟩ := hcut
                  obtain ⟨v9, u9, hT9⟩ := HTc.out
                  have HT := Aside0.mk hT9
                  generalize dblL xs k1 = zs at HT
                  clear hT9 HTc HT5 HT6 HR5 HX5 HB5 HX6 a0 a1 a2 a3
                  go_wp2_with fail
                  have hzl := HT.out.n.le
                  have HN9 := Aside0.mk (HT.out.n.below (below_drew (Below.refl _ _)))
                  have hrc := (HT.out.r.below (below_drew (Below.refl _ _))).cell
                  obtain ⟨AR, cR, hvR, hlR, _⟩ := HT.out.r.row.reads
                  subst hvR
                  have HTD := Aside0.mk (HT.out.wide (E' := fun _ => False) (below_drew (Below.refl _ _)) (fun _ hk => hk.elim))
                  have tkl : True := trivial
                  go_region_law (clear tkl; refine goes_ Try.func10 (by kernel_rfl) rfl #[.pointer (some ⟨w1.heap.size, 0, none⟩)] (by rfl) rfl rfl (by simp only [List.map_toArray, List.map_cons, List.map_nil]; rfl) ?_; refine (len_calls HN9.out).mono ?_; rintro e w' ⟨rfl, hw'⟩; subst w'; refine ⟨_, rfl, ?_⟩)
                  all_goals
                    go_simp
                    go_wp2
                    go_roundw
                    case rel => exact ⟨i + 1, by go_num, by omega, ⟨_, _, _, HTD.out⟩⟩
                    case measure => simp [intOf]; omega
              · have hr3 : (k0 == 3) = false := by simpa using hq3
                have hd3 : decide (k0 = 3) = false := decide_eq_false hq3
                by_cases hq4 : k0 = 4
                · subst hq4
                  obtain ⟨x, hxp⟩ : ∃ x, x = takeP xs k1 := ⟨_, rfl⟩
                  have HXP := Aside0.mk hxp
                  clear hxp
                  obtain ⟨bb, hbb⟩ : ∃ bb, bb = isAt xs k1 := ⟨_, rfl⟩
                  have HBBE := Aside0.mk hbb
                  clear hbb
                  go_wp2_with fail
                  refine (at_calls HT5.out.n HT5.out.below.size k1).mono ?_
                  rw [← HXP.out, ← HBBE.out]
                  rintro e w6 ⟨A5, c5, rfl, hl5, hu, hb6⟩
                  have hwz : wr.heap.size < w5.heap.size := blk_lt HX6.out
                  have HOA := Aside0.mk (fun k hk => own_R hu k hk)
                  have HT7 := Aside0.mk (HT5.out.wide (E' := Own A5) (below_alloc hb6 (.cells #[.int .i64 x.f0, .int .i64 x.f1, .slice A5 x.f2.length c5] 32)) (fun k hk => ⟨.inr (HOA.out k hk).1, by have := (HOA.out k hk).2.1; simp; omega⟩))
                  have HP7 := Aside0.mk (blk_new w6 (.cells #[.int .i64 x.f0, .int .i64 x.f1, .slice A5 x.f2.length c5] 32))
                  have HU7 := Aside0.mk (Kd.R_below hu (below_alloc (Below.refl _ _) (.cells #[.int .i64 x.f0, .int .i64 x.f1, .slice A5 x.f2.length c5] 32)))
                  have HX7 := Aside0.mk (blk_below HX6.out (below_alloc hb6 (.cells #[.int .i64 x.f0, .int .i64 x.f1, .slice A5 x.f2.length c5] 32)))
                  have hz6 : (w6.alloc (.cells #[.int .i64 x.f0, .int .i64 x.f1, .slice A5 x.f2.length c5] 32)).heap.size = w6.heap.size + 1 := by simp
                  have hz56 : w5.heap.size ≤ w6.heap.size := hb6.size
                  have hxlen : x.f2.length ≤ 9223372036854775807 := (Kd.R_reads' hu).2.2.2.1
                  have hwg5 : w.heap.size ≤ w5.heap.size := HT5.out.below.size
                  clear hu hb6 a0 a1 a2 a3
                  have HST := Aside0.mk (show x.f2.length = 0 ∨ ∃ gb, A5 = some ⟨gb, 0, none⟩ ∧ ∃ bs : List Int, bs.length = x.f2.length ∧ BRow (w6.alloc (.cells #[.int .i64 x.f0, .int .i64 x.f1, .slice A5 x.f2.length c5] 32)) gb c5 bs from by
                    rcases brow_of_R HU7.out with ⟨_, h0⟩ | ⟨gb, c, he, _, _, hrow⟩
                    · exact .inl (by rw [h0]; rfl)
                    · injection he with h1 h2 h3
                      subst h3
                      exact .inr ⟨gb, h1, x.f2, rfl, hrow⟩)
                  generalize hw6 : w6.alloc (.cells #[.int .i64 x.f0, .int .i64 x.f1, .slice A5 x.f2.length c5] 32) = W6 at HT7 HP7 HU7 HX7 hz6 HST
                  go_wp2_with fail
                  clear hw6
                  go_loopw [15] (fun v8 wq => ∃ k : Nat, v8 = .int .i64 k ∧ k ≤ x.f2.length ∧ Aside0 (x.f2.length = 0 ∨ ∃ gb, A5 = some ⟨gb, 0, none⟩ ∧ ∃ bs : List Int, bs.length = x.f2.length ∧ BRow wq gb c5 bs) ∧ Aside0 (Below w.heap.size W6 wq) ∧ Aside0 (Kept W6 wq (Own A5))) (fun v8 _ => x.f2.length - (intOf v8).toNat)
                  case atStart => exact ⟨0, rfl, by omega, HST, ⟨Below.refl _ _⟩, ⟨Kept.refl _ _⟩⟩
                  case round =>
                    obtain ⟨k, rfl, hk, HYS, HXB, HXK⟩ := hrel
                    have hPq := blk_kept HP7.out HXK.out (fun hk => by have := (HOA.out _ hk).2.1; omega)
                    have hXq := blk_kept HX7.out HXK.out (fun hk => by have := (HOA.out _ hk).1; omega)
                    have p2 := (blk_cell hPq 2).trans rfl
                    have o1 := (blk_cell hXq 1).trans rfl
                    clear hPq hXq
                    by_cases hltk : k < x.f2.length
                    · have t5 : decide ((k : Int) < (x.f2.length : Int)) = true := decide_eq_true (by omega)
                      have t6 : decide (k < x.f2.length) = true := decide_eq_true hltk
                      rcases HYS.out with h0 | ⟨gb, hA7, ys, hys, hyr⟩
                      · omega
                      · subst hA7
                        obtain ⟨y, hy⟩ : ∃ y, ys[k]? = some y := ⟨_, List.getElem?_eq_getElem (by omega)⟩
                        have hcx := hyr.cell hy
                        have hfx := hyr.free k
                        have hlk : (k : Int) < (x.f2.length : Int) := by omega
                        have HS1 := Aside0.mk (fun v => hyr.set k v)
                        have HYL := Aside0.mk hys
                        have hwgb : w.heap.size ≤ gb := by have := (HOA.out gb ⟨_, rfl, rfl⟩).1; omega
                        clear hy hyr hys HYS
                        go_wp2
                        go_roundw
                        case rel => exact ⟨k + 1, by go_num, by omega, ⟨.inr ⟨gb, rfl, _, by rw [List.length_set]; exact HYL.out, HS1.out _⟩⟩, ⟨HXB.out.setCell (p := ⟨gb, k, none⟩) hwgb _⟩, ⟨HXK.out.setCell (p := ⟨gb, k, none⟩) (.inl ⟨_, rfl, rfl⟩) _⟩⟩
                        case measure => simp [intOf]; omega
                    · have t5 : decide ((k : Int) < (x.f2.length : Int)) = false := decide_eq_false (by omega)
                      have t6 : decide (k < x.f2.length) = false := decide_eq_false hltk
                      have HT8 := Aside0.mk ((HT7.out.aside HXB.out HXK.out (fun hk => by have := (HOA.out _ hk).1; omega) (fun hk => by have := (HOA.out _ hk).1; omega)).narrow (E' := fun _ => False) (fun _ hk => hk.elim))
                      clear HYS HXB HXK HT7 HOA HST
                      go_wp2_with fail
                      refine (refat_calls HT8.out.r HT8.out.below.size k1).mono ?_
                      rw [← HXP.out, ← HBBE.out]
                      rintro e w9 ⟨A6, c6, rfl, hl6, hu2, hb9⟩
                      have HT := Aside0.mk (HT8.out.wide (E' := fun _ => False) (below_alloc hb9 (.cells #[.int .i64 x.f0, .int .i64 x.f1, .slice A6 x.f2.length c6] 32)) (fun _ hk => hk.elim))
                      clear hu2 hb9 p2 o1
                      go_wp2_with fail
                      have hzl := HT.out.n.le
                      have HN9 := Aside0.mk (HT.out.n.below (below_drew (Below.refl _ _)))
                      have hrc := (HT.out.r.below (below_drew (Below.refl _ _))).cell
                      obtain ⟨AR, cR, hvR, hlR, _⟩ := HT.out.r.row.reads
                      subst hvR
                      have HTD := Aside0.mk (HT.out.wide (E' := fun _ => False) (below_drew (Below.refl _ _)) (fun _ hk => hk.elim))
                      have tkl : True := trivial
                      go_region_law (clear tkl; refine goes_ Try.func10 (by kernel_rfl) rfl #[.pointer (some ⟨w1.heap.size, 0, none⟩)] (by rfl) rfl rfl (by simp only [List.map_toArray, List.map_cons, List.map_nil]; rfl) ?_; refine (len_calls HN9.out).mono ?_; rintro e w' ⟨rfl, hw'⟩; subst w'; refine ⟨_, rfl, ?_⟩)
                      all_goals
                        go_simp
                        go_wp2
                        go_roundw
                        case rel => exact ⟨i + 1, by go_num, by omega, ⟨_, _, _, HTD.out⟩⟩
                        case measure => simp [intOf]; omega
                · have hr4 : (k0 == 4) = false := by simpa using hq4
                  have hd4 : decide (k0 = 4) = false := decide_eq_false hq4
                  have HT := Aside0.mk (HT5.out.narrow (E' := fun _ => False) (fun _ hk => hk.elim))
                  clear HT5 HR5 HX5 HB5 HX6
                  go_wp2_with fail
                  clear a0 a1 a2 a3
                  have hzl := HT.out.n.le
                  have HN9 := Aside0.mk (HT.out.n.below (below_drew (Below.refl _ _)))
                  have hrc := (HT.out.r.below (below_drew (Below.refl _ _))).cell
                  obtain ⟨AR, cR, hvR, hlR, _⟩ := HT.out.r.row.reads
                  subst hvR
                  have HTD := Aside0.mk (HT.out.wide (E' := fun _ => False) (below_drew (Below.refl _ _)) (fun _ hk => hk.elim))
                  have tkl : True := trivial
                  go_region_law (clear tkl; refine goes_ Try.func10 (by kernel_rfl) rfl #[.pointer (some ⟨w1.heap.size, 0, none⟩)] (by rfl) rfl rfl (by simp only [List.map_toArray, List.map_cons, List.map_nil]; rfl) ?_; refine (len_calls HN9.out).mono ?_; rintro e w' ⟨rfl, hw'⟩; subst w'; refine ⟨_, rfl, ?_⟩)
                  all_goals
                    go_simp
                    go_wp2
                    go_roundw
                    case rel => exact ⟨i + 1, by go_num, by omega, ⟨_, _, _, HTD.out⟩⟩
                    case measure => simp [intOf]; omega
      · have t1 : decide ((i : Int) < (s.length : Int)) = false := decide_eq_false (by omega)
        have t2 : decide (i < s.length) = false := decide_eq_false hlt
        have hxl := HT0.out.n.le
        obtain ⟨wm, hwm⟩ : ∃ wm : World, wm = wr := ⟨_, rfl⟩
        subst hwm
        go_wp2_with fail
        go_loopw [18] (fun v18 wq => ∃ j : Nat, v18 = .int .i64 j ∧ j ≤ xs.length ∧ Aside0 (Below wm.heap.size wm wq)) (fun v18 _ => xs.length - (intOf v18).toNat)
        case atStart => exact ⟨0, rfl, by omega, ⟨Below.refl _ _⟩⟩
        case round =>
          obtain ⟨j, rfl, hj, HZ⟩ := hrel
          have hrc := (HT0.out.r.below HZ.out).cell
          obtain ⟨AR, cR, hvR, hlR, _⟩ := HT0.out.r.row.reads
          subst hvR
          by_cases hjl : j < xs.length
          · have t3 : decide ((j : Int) < (xs.length : Int)) = true := decide_eq_true (by omega)
            have t4 : decide (j < xs.length) = true := decide_eq_true hjl
            have hia : isAt xs (j : Int) = true := by rw [isAt_true]; omega
            have HPX := Aside0.mk (show takeP xs (j : Int) = rd_T32 xs (j : Int) by simp [takeP, hia])
            have HIA := Aside0.mk hia
            have HW7 := Aside0.mk (fun (W : World) (hW : Below wm.heap.size wm W) => (HT0.out.r.below hW).at_ (j : Int) (by omega) (by omega))
            have hjx : (j : Int) < (xs.length : Int) := by omega
            clear hia
            go_wp2_with fail
            refine (at_calls (HT0.out.n.below HZ.out) (Nat.le_trans HT0.out.below.size HZ.out.size) (j : Int)).mono ?_
            rw [HPX.out, HIA.out]
            generalize rd_T32 xs (j : Int) = x at HW7
            rintro e w6 ⟨A5, c5, rfl, hl5, hu, hb6⟩
            have HZ6 := Aside0.mk (below_step HZ.out (below_alloc hb6 (.cells #[.int .i64 x.f0, .int .i64 x.f1, .slice A5 x.f2.length c5] 32)))
            have HU6 := Aside0.mk (Kd.R_below hu (below_alloc (Below.refl _ _) (.cells #[.int .i64 x.f0, .int .i64 x.f1, .slice A5 x.f2.length c5] 32)))
            have hP6 := blk_new w6 (.cells #[.int .i64 x.f0, .int .i64 x.f1, .slice A5 x.f2.length c5] 32)
            have HP6 := Aside0.mk hP6
            clear hu hb6 hrc
            go_wp2_with fail
            have hb7 := below_drew HZ6.out
            obtain ⟨adR, cR', uR, he, r0, r1, r2, hR⟩ := HW7.out _ hb7
            injection he with he1 he2 he3
            subst he1
            obtain ⟨A8, c8, he8, hl8, hC8⟩ := Kd.R_reads hR
            subst he8
            have hrc := (HT0.out.r.below hb7).cell
            have p0 := (blk_cell (blk_drew hP6) 0).trans rfl
            have p1 := (blk_cell (blk_drew hP6) 1).trans rfl
            have p2 := (blk_cell (blk_drew hP6) 2).trans rfl
            simp only [Int.toNat_natCast] at r0 r1 r2
            have HC8 := Aside0.mk hC8
            have HZ7 := Aside0.mk hb7
            clear hP6 hb7 hR hC8 he2 he3
            go_region_law (refine goes_ Try.func16 (by kernel_rfl) rfl #[.agg #[.int .i64 x.f0, .int .i64 x.f1, .slice A5 x.f2.length c5], .agg #[.int .i64 x.f0, .int .i64 x.f1, .slice A8 x.f2.length c8]] (by rfl) rfl rfl (by simp only [List.map_toArray, List.map_cons, List.map_nil]; rfl) ?_; refine (same_calls x A5 c5 A8 c8 _ (Kd.C_below (Kd.R_reads' HU6.out).2.2 (below_drew (Below.refl _ _))) hl5 HC8.out hl8).mono ?_; rintro e w8 ⟨rfl, hb8⟩; refine ⟨_, rfl, ?_⟩; have HZ8 := Aside0.mk (below_step HZ7.out hb8); clear hb8)
            all_goals
              go_simp
              go_wp2
              go_roundw
              case rel => exact ⟨j + 1, by go_num, by omega, HZ8⟩
              case measure => simp [intOf]; omega
          · have t3 : decide ((j : Int) < (xs.length : Int)) = false := decide_eq_false (by omega)
            have t4 : decide (j < xs.length) = false := decide_eq_false hjl
            go_wp2
            go_ret
            exact ⟨rfl, below_step HT0.out.below HZ.out⟩
end Go.Proofs.Ytgknafhpfghbjaa.X
