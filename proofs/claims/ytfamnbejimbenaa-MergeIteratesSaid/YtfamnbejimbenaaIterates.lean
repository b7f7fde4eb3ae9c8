/- MergeIterates, walked. -/
import Derived.Test.YtfamnbejimbenaaZed
import Derived.Test.YtfamnbejimbenaaRef
import Derived.Test.YtfamnbejimbenaaOpen
set_option linter.unusedVariables false
set_option linter.unusedSimpArgs false
namespace Go.Proofs.Ytfamnbejimbenaa.X
open Go.RowKit Go.Sort Go.Proofs.Ytfamnbejimbenaa.G Go.Proofs.YtfamnbejimbenaaW.PrintWords Go.Proofs.YtfamnbejimbenaaW.PrintLast Go.Proofs.YtfamnbejimbenaaW.PrintMore
theorem info29' : (Try.prog.info? 29).map (fun i => (i.zero, i.size, i.bytes)) = some (some (.slice none 0 0), 1, 24) := by kernel_rfl
/-- The first loop: the lists' views. -/
structure L1 (l : List (List S24)) (w wr : World) (i : Nat) (v : Value) : Prop where
  s : Kd.S (Kd.slice 24 k24) 29 wr w.heap.size (fun _ => True) v (views (l.take i))
  below : Below w.heap.size w wr
theorem views_next {l : List (List S24)} {i : Nat} {x : List S24} (h : l[i]? = some x) : views (l.take (i + 1)) = views (l.take i) ++ [view x] := by
  unfold views
  rw [List.take_add_one, h]; simp
/-- Behind the zeroing. -/
structure Mid1 (w4 w5 w6 w7 : World) (g : Nat) (vs : List (List S24)) : Prop where
  b5 : Below w4.heap.size w4 w5
  b6 : Below w5.heap.size w5 w6
  z : Zed w4.heap.size w5.heap.size w6 w7
  hs : ∃ v us, Hs w6 w5.heap.size w6.heap.size g (built vs) v us
theorem Mid1.below {w4 w5 w6 w7 : World} {g : Nat} {vs : List (List S24)} (h : Mid1 w4 w5 w6 w7 g vs) : Below w4.heap.size w4 w7 :=
  (below_step h.b5 h.b6).trans h.z.below
theorem Mid1.list {w4 w5 w6 w7 : World} {g : Nat} {vs : List (List S24)} (h : Mid1 w4 w5 w6 w7 g vs) {A : Option Addr} (hC : Kd.C (Kd.slice 24 k24) w4 A vs.length vs) : Kd.C (Kd.slice 24 k24) w7 A vs.length vs := Kd.C_below hC h.below
/-- The loop of Next. -/
structure Nx (w4 w8 wr : World) (B M g : Nat) (want : List S24) (i : Nat) : Prop where
  hs : ∃ ls v us, Hs wr B M g ls v us ∧ Inv ls ∧ want.drop i = view ls.flatten ∧ ls.length ≤ 8192 ∧ ls.flatten.length ≤ 8192
  below : Below w4.heap.size w4 w8
  step : Step B w8 wr
  hB : w4.heap.size ≤ B
  hM : B ≤ M ∧ M ≤ w8.heap.size
theorem Mid1.behind {w4 w5 w6 w7 w8 : World} {g : Nat} {l vs : List (List S24)} {want : List S24} (h : Mid1 w4 w5 w6 w7 g vs) (hvs : views l = vs) (hl : l.length ≤ 8192) (hf : l.flatten.length ≤ 8192) (hw : want = view vs.flatten) (hb : Below w7.heap.size w7 w8) : Nx w4 w8 w8 w5.heap.size w6.heap.size g want 0 := by
  subst hvs
  obtain ⟨v, us, hs⟩ := h.hs
  have h67 := h.z.below.size
  have h56 := h.b6.size
  have h45 := h.b5.size
  obtain ⟨v1, v2, v3⟩ := views_built l
  have hfl := views_flat l
  have hbl := built_len (views l)
  have hvl : (views l).length = l.length := by simp [views]
  refine ⟨⟨built (views l), v, us, ((hs.hi h.z.hi).below hb (by omega)), v1, ?_, by omega, by omega⟩, below_step h.below hb, ⟨Below.refl _ _, fun _ _ _ _ => rfl⟩, h45, h56, Nat.le_trans h67 hb.size⟩
  rw [hw, v2]; rfl
theorem want_row {w : World} {B : Nat} {ok : Nat → Prop} {v : Value} {x : List S24} (h : Kd.R k24 24 w B ok v x) : ∃ A c, v = .slice A x.length c ∧ ∀ (i : Nat) (p : S24), x[i]? = some p → ∃ g, A = some ⟨g, 0, none⟩ ∧ Row w g c x := by
  rcases row_of_R h with ⟨rfl, rfl⟩ | ⟨g, cap, rfl, hb, hr⟩
  · exact ⟨none, 0, rfl, fun i p hi => by simp at hi⟩
  · exact ⟨_, cap, rfl, fun i p _ => ⟨g, rfl, hr⟩⟩
theorem Inv.one {ls : List (List S24)} {want : List S24} {i : Nat} (h : Inv ls) (hi : i < want.length) (hv : want.drop i = view ls.flatten) : ∃ p r, ls.getD 0 [] = p :: r ∧ 0 < ls.length ∧ want[i]? = some p ∧ (Inv (nextL ls) ∧ want.drop (i + 1) = view (nextL ls).flatten) := by
  have h0 : 0 < ls.length := by
    rcases Nat.eq_zero_or_pos ls.length with h0 | h0
    · have : ls = [] := List.eq_nil_of_length_eq_zero h0
      subst this
      have := congrArg List.length hv
      simp [view] at this
      omega
    · exact h0
  obtain ⟨p, r, hp⟩ := h.head h0
  obtain ⟨h1, h2⟩ := next_view h h0 hp
  rw [h2, List.drop_eq_getElem_cons hi] at hv
  injection hv with e1 e2
  exact ⟨p, r, hp, h0, by rw [List.getElem?_eq_getElem hi, e1], h1, e2⟩
theorem Row.pts {w w' : World} {B g cap : Nat} {xs : List S24} (h : Row w g cap xs) (hs : Step B w w') : Row w' g cap xs := by
  obtain ⟨cur, hb, r⟩ := h
  exact ⟨cur, (hs.pts g _ _ hb).trans hb, r⟩
theorem Nx.next {w4 w8 wr w9 w10 : World} {B M g : Nat} {want : List S24} {i : Nat} {ls : List (List S24)} (h : Nx w4 w8 wr B M g want i) (hN : NState wr w9 B M g (nextL ls)) (hb : Below w9.heap.size w9 w10) (hI2 : Inv (nextL ls)) (h1 : ls.length ≤ 8192) (h2 : ls.flatten.length ≤ 8192) (hle : (nextL ls).length ≤ ls.length ∧ (nextL ls).flatten.length ≤ ls.flatten.length) (hd : want.drop (i + 1) = view (nextL ls).flatten) :
    Nx w4 w8 w10 B M g want (i + 1) := by
  obtain ⟨v, us, hs⟩ := hN.hs
  have h3 := h.step.below.size
  have h4 := hN.step.below.size
  have h5 := h.hM
  have hB9 : B ≤ w9.heap.size := by omega
  exact ⟨⟨nextL ls, v, us, hs.below hb hB9, hI2, hd, by omega, by omega⟩, h.below, (h.step.trans hN.step).trans (Step.of_below hb hB9), h.hB, h.hM⟩
theorem Nx.last {w4 w8 wr w9 w10 : World} {B M g : Nat} {want : List S24} {i : Nat} (h : Nx w4 w8 wr B M g want i) (hN : NState wr w9 B M g []) (hb : Below w9.heap.size w9 w10) : Below w4.heap.size w4 w10 := by
  have h1 := h.below.size
  have h3 := h.step.below.size
  have h4 := hN.step.below.size
  have h5 := h.hM
  have h6 := h.hB
  have hw := ((h.step.trans hN.step).trans (Step.of_below hb (by omega : B ≤ w9.heap.size))).below
  exact ⟨hw.os.trans h.below.os, hw.tape.trans h.below.tape, hw.output.trans h.below.output, Nat.le_trans h1 hw.size, fun k hk => (hw.block k (by omega)).trans (h.below.block k hk)⟩
set_option maxHeartbeats 2000000 in
theorem iterates_calls (A0 : Option Addr) (c0 : Nat) (l : List (List S24)) (w : World) (hC : Kd.C (Kd.slice 24 k24) w A0 l.length l) (hc : l.length ≤ c0) (h1 : l.length < 140737488355328) (h2 : ∀ x ∈ l, x.length < 140737488355328) :
    Calls Try.prog 4 #[.slice A0 l.length c0] w fun e w' => e = .returned (.bool true) ∧ Below w.heap.size w w' := by
  obtain ⟨b, hb, hlight⟩ := heavy_is (l.length + 1) l h1 h2 (Nat.lt_succ_self _)
  have HC := Aside0.mk hC
  have HL := Aside0.mk hlight
  clear hC hlight h2
  go_enter Try.func4, Try.ntmps4
  go_wp2_with fail
  refine (thermographlaw06_heavy.calls _ A0 c0 l b _ HC.out hc hb).mono ?_
  rintro e w1 ⟨rfl, hd⟩
  have HD1 := Aside0.mk hd.below
  clear hd hb h1
  cases b with
  | true =>
    go_wp2
    go_ret
    exact ⟨rfl, HD1.out⟩
  | false =>
    have hlt := HL.out rfl
    have hl1 : l.length ≤ 8192 := by omega
    have hl2 : l.flatten.length ≤ 8192 := by omega
    have HX := Aside0.mk (show ∀ x ∈ l, x.length ≤ 8192 from fun x hx => Nat.le_trans (each_le hx) hl2)
    clear hlt HL
    go_wp2_with ((with_reducible refine gate_dst (N := 17) rfl ?_); refine Kd.S_lit (Kd.slice 24 k24) _ 29 ?hg (N := 17) ?hd (xs := ([] : List (List (S24)))) (inner := []) (ok := fun _ => True) (okp := fun _ => True) ?hr ?hp (fun _ hk => hk) trivial (Below.refl _ _) (Nat.le_refl _) (by simp) ?_; (case hd => rfl); (case hg => rfl); (case hr => first | (go_simp; done) | (go_simp; rfl)); (case hp => exact (Reps.none _ _)); intro v105 w2 ho3 hb hg_ hnew_; have D := Aside0.mk (show L1 l w w2 0 v105 from ⟨Kd.S_lower ho3 HD1.out.size, below_step HD1.out hb⟩); clear hg_ hnew_ ho3 hb)
    go_loopw [3, 4] (fun v3 v4 wr => ∃ i : Nat, v4 = .int .i64 i ∧ i ≤ l.length ∧ Aside0 (L1 l w wr i v3)) (fun _ v4 _ => l.length - (intOf v4).toNat)
    case atStart => exact ⟨0, rfl, Nat.zero_le _, D⟩
    case round =>
      clear D
      obtain ⟨i, rfl, hi, HD⟩ := hrel
      by_cases hlt : i < l.length
      · have t1 : decide ((i : Int) < (l.length : Int)) = true := decide_eq_true (by omega)
        have t2 : decide (i < l.length) = true := decide_eq_true hlt
        obtain ⟨ad, A1, c1, x, rfl, hx, hc1, hle, hC1⟩ := at_row (Kd.C_below HC.out HD.out.below) i hlt
        have HXI := Aside0.mk hx
        have HC1 := Aside0.mk hC1
        have HXL := Aside0.mk (HX.out x (List.mem_of_getElem? hx))
        clear hC1 hx
        go_wp2_with fail
        refine (thermographref06_View.calls (5 * x.length + 5) A1 c1 x (view x) _ HC1.out hle (view_is_ref x.length _ x (Nat.le_refl _) (by have := HXL.out; omega) (by omega))).mono ?_
        rintro e w3 ⟨v3', rfl, hR, hbb⟩
        obtain ⟨A3, c3, rfl⟩ := Kd.R_slice hR
        have HB3 := Aside0.mk (below_step HD.out.below hbb)
        have HS3 := Aside0.mk (Kd.S_elder' HD.out.s (Kd.R_base hR) hbb)
        have HR3 := Aside0.mk (Kd.R_lower hR HD.out.below.size)
        have HLEN := Aside0.mk (show (views (l.take i)).length ≤ 8192 by unfold views; rw [List.length_map, List.length_take]; omega)
        clear hR hbb
        go_wp2_with ((with_reducible refine gate_builtin (b := .append) (xs := #[.tmp 24, .tmp 30]) rfl ?_); at_builtin; refine Kd.S_append (Kd.slice 24 k24) (w0 := w) w.heap.size rfl (.tmp 24) (.tmp 30) 27 29 (.slice none 0 0) 24 rfl Try.underlying27 info29' rfl (by decide) (by omega) _ (views (l.take i)) (view x) [.slice A3 (view x).length c3] (fun _ => True) (fun k_ => some k_ = (.slice A3 (view x).length c3 : Value).ownBlock) rfl rfl ?aP (fun k_ hk_ => ((Kd.R_mono (ok' := fun k_ => True ∧ some k_ ≠ (u3 : Value).ownBlock) (Kd.R_apart' (HR3.out) (Kd.S_typed HS3.out) (by decide)) (fun k_ hk => ⟨trivial, hk.2⟩))).1 k_ hk_.symm) ?aF ?aO ?aB ?aS ?aL ?_; (case aP => exact Kd.M_row (Kd.R_mono (Kd.R_tight rfl (Kd.R_mono (ok' := fun k_ => True ∧ some k_ ≠ (u3 : Value).ownBlock) (Kd.R_apart' (HR3.out) (Kd.S_typed HS3.out) (by decide)) (fun k_ hk => ⟨trivial, hk.2⟩))) (fun _ h_ => h_))); (case aB => exact HB3.out); (case aF => exact (fun _ _ => trivial)); (case aO => exact Kd.S_mono HS3.out (fun k_ hk => ⟨trivial, fun e_ => hk.2 e_⟩)); (case aS => exact HB3.out.size); (case aL => have := HLEN.out; omega); intro v5 w5 ho hb5 hg hat; have HN := Aside0.mk (show L1 l w w5 (i + 1) v5 from ⟨by rw [views_next HXI.out]; exact ho, hb5⟩); clear ho hb5 hg hat)
        go_roundw
        case rel => exact ⟨i + 1, by go_num, by omega, HN⟩
        case measure => simp [intOf]; omega
      · have t1 : decide ((i : Int) < (l.length : Int)) = false := decide_eq_false (by omega)
        have t2 : decide (i < l.length) = false := decide_eq_false hlt
        rename World => w4
        have hV : Kd.S (Kd.slice 24 k24) 29 w4 w.heap.size (fun _ => True) u3 (views l) := by have := HD.out.s; rwa [List.take_of_length_le (by omega)] at this
        obtain ⟨A3, c3, rfl, hle3, hC3⟩ := Kd.S_reads hV
        have HC3 := Aside0.mk hC3
        have HB1 := Aside0.mk HD.out.below
        have hvl : (views l).length = l.length := by simp [views]
        have hvf : (views l).flatten.length ≤ 8192 := Nat.le_trans (views_flat l) hl2
        have HVX := Aside0.mk (show ∀ x ∈ views l, x.length ≤ 8192 from fun x hx => Nat.le_trans (each_le hx) hvf)
        generalize hvs : views l = vs at *
        have hvl2 : vs.length ≤ 8192 := by omega
        have HVS := Aside0.mk hvs
        clear HD hlt hV hC3 hi hvl hvs
        go_wp2_with fail
        clear t1 t2
        refine (thermographlaw06_copied.calls (vs.length + 1) A3 c3 vs vs _ HC3.out hle3 (copied_is _ vs (by omega) (by omega) (Nat.lt_succ_self _))).mono ?_
        rintro e w5 ⟨v5, rfl, hS5, hb5⟩
        obtain ⟨A5, c5, rfl, hle5, hC5⟩ := Kd.S_reads hS5
        have HS5 := Aside0.mk hS5
        have HB5 := Aside0.mk hb5
        have HC5 := Aside0.mk hC5
        clear hS5 hb5 hC5
        go_wp2_with fail
        refine (new14_calls A5 c5 vs w5 HC5.out (by omega) (fun x hx => Nat.le_trans (HVX.out x hx) (by omega))).mono ?_
        rintro e w6 ⟨g, rfl, ⟨v6, us6, hs6⟩, hb6⟩
        have HS6 := Aside0.mk hs6
        have HB6 := Aside0.mk hb6
        clear hs6 hb6
        have HZ0 := Aside0.mk (Zed.refl w4.heap.size w5.heap.size w6)
        go_wp2_with fail
        go_loopw [7] (fun v7 wz => ∃ i : Nat, v7 = .int .i64 i ∧ i ≤ vs.length ∧ Aside0 (Zed w4.heap.size w5.heap.size w6 wz)) (fun v7 _ => vs.length - (intOf v7).toNat)
        case atStart => exact ⟨0, rfl, Nat.zero_le _, HZ0⟩
        case round =>
          clear HZ0
          obtain ⟨i, rfl, hi, HZ⟩ := hrel
          by_cases hlt : i < vs.length
          · have t1 : decide ((i : Int) < (vs.length : Int)) = true := decide_eq_true (by omega)
            have t2 : decide (i < vs.length) = true := decide_eq_true hlt
            obtain ⟨k, ok, x, A1, c1, rfl, hk, hx, hcx, hle, hin⟩ := inner_at HS5.out i hlt
            have hk6 := (HB6.out.block k (Array.getElem?_eq_some_iff.1 hk).1).trans hk
            have hcz := (HZ.out.cell (by decide) hk6 i).trans ((World.cell?_of_block (hk6.trans hk.symm)).trans hcx)
            have HK6 := Aside0.mk hk6
            have HXL := Aside0.mk (HVX.out x (List.mem_of_getElem? hx))
            have HCX := Aside0.mk hcx
            have HIN := Aside0.mk hin
            have HK := Aside0.mk hk
            clear hk hx hin hcx hk6
            go_wp2_with fail
            go_loopw [8] (fun v8 wy => ∃ j : Nat, v8 = .int .i64 j ∧ j ≤ x.length ∧ Aside0 (Zed w4.heap.size w5.heap.size w6 wy)) (fun v8 _ => x.length - (intOf v8).toNat)
            case atStart => exact ⟨0, rfl, Nat.zero_le _, HZ⟩
            case round =>
              clear HZ hcz
              obtain ⟨j, rfl, hj, HZ⟩ := hrel
              have hcz := (HZ.out.cell (by decide) HK6.out i).trans ((World.cell?_of_block (HK6.out.trans HK.out.symm)).trans HCX.out)
              by_cases hjl : j < x.length
              · have t3 : decide ((j : Int) < (x.length : Int)) = true := decide_eq_true (by omega)
                have t4 : decide (j < x.length) = true := decide_eq_true hjl
                obtain ⟨g2, rfl, hg1, hg2, hrow⟩ : ∃ g2, A1 = some ⟨g2, 0, none⟩ ∧ w4.heap.size ≤ g2 ∧ g2 < w5.heap.size ∧ Row w5 g2 c1 x := by
                  rcases HIN.out with rfl | h
                  · exact absurd hjl (Nat.not_lt_zero _)
                  · exact h
                obtain ⟨cs5, hcs5, hr1, _, hr2, _⟩ := hrow
                have hcs6 := (HB6.out.block g2 hg2).trans hcs5
                obtain ⟨y0, hy0⟩ := HZ.out.has hcs6 (j * 3) (by omega)
                obtain ⟨y1, hy1⟩ := HZ.out.has hcs6 (j * 3 + 1) (by omega)
                obtain ⟨y2, hy2⟩ := HZ.out.has hcs6 (j * 3 + 2) (by omega)
                have f0 := HZ.out.free hcs6 (j * 3)
                have f1 := HZ.out.free hcs6 (j * 3 + 1)
                have f2 := HZ.out.free hcs6 (j * 3 + 2)
                have HN := Aside0.mk (((HZ.out.put1 hg1 hg2 hcs6 (j * 3) (.int .i64 0)).put1 hg1 hg2 hcs6 (j * 3 + 1) (.int .u64 0)).put1 hg1 hg2 hcs6 (j * 3 + 2) (.int .u64 0))
                clear hcs5 hcs6 hg1 hg2 hr1 hr2
                have hxl := HXL.out
                go_wp2_with fail
                go_roundw
                case rel => exact ⟨j + 1, by go_num, by omega, HN⟩
                case measure => simp [intOf]; omega
              · have t3 : decide ((j : Int) < (x.length : Int)) = false := decide_eq_false (by omega)
                have t4 : decide (j < x.length) = false := decide_eq_false hjl
                have hxl := HXL.out
                go_wp2_with fail
                go_roundw
                case rel => exact ⟨i + 1, by go_num, by omega, HZ⟩
                case measure => simp [intOf]; omega
          · have t1 : decide ((i : Int) < (vs.length : Int)) = false := decide_eq_false (by omega)
            have t2 : decide (i < vs.length) = false := decide_eq_false hlt
            have HM := Aside0.mk (show Mid1 w4 w5 w6 wr g vs from ⟨HB5.out, HB6.out, HZ.out, _, _, HS6.out⟩)
            clear HZ hlt HB5 HB6 HS6 HS5 HC5 hi
            rename World => w7
            go_wp2_with fail
            clear t1 t2
            refine (thermographref06_Merge.calls 6000011 A3 c3 vs (view vs.flatten) _ (HM.out.list HC3.out) hle3 (rmerge_is _ vs (by omega) (by omega) (by omega))).mono ?_
            rintro e w8 ⟨v8, rfl, hR8, hb8⟩
            obtain ⟨A8, c8, rfl, hrow8⟩ := want_row hR8
            have hwl : (view vs.flatten).length ≤ 8192 := Nat.le_trans (view_len _) hvf
            have HM8 := Aside0.mk (HM.out.behind HVS.out hl1 hl2 rfl hb8)
            generalize hwant : view vs.flatten = want at *
            have HR8 := Aside0.mk hrow8
            clear hR8 hb8 hrow8 hwant HM HVS HVX HC3 HX HC
            go_wp2_with fail
            go_loopw [10] (fun v10 wn => ∃ i : Nat, v10 = .int .i64 i ∧ i ≤ want.length ∧ Aside0 (Nx w4 w8 wn w5.heap.size w6.heap.size g want i)) (fun v10 _ => want.length - (intOf v10).toNat)
            case atStart => exact ⟨0, rfl, Nat.zero_le _, HM8⟩
            case round =>
              clear HM8
              obtain ⟨i, rfl, hi, HN⟩ := hrel
              have hst8 := HN.out.step.below.size
              have hM8 := HN.out.hM
              by_cases hlt : i < want.length
              · have t1 : decide ((i : Int) < (want.length : Int)) = true := decide_eq_true (by omega)
                have t2 : decide (i < want.length) = true := decide_eq_true hlt
                obtain ⟨ls, v, us, hs, hI, hv, hn1, hn2⟩ := HN.out.hs
                obtain ⟨p, r, hp, hlp, hxp, hdr⟩ := hI.one hlt hv
                obtain ⟨gb, rfl, hrow⟩ := HR8.out i p hxp
                have HROW := Aside0.mk hrow
                have HDR := Aside0.mk hdr
                have HIN := Aside0.mk hI
                have HLE := Aside0.mk (nextL_len hI hlp)
                have HXP := Aside0.mk hxp
                clear hrow hdr hxp hv
                go_wp2_with fail
                refine (next16_calls hs (by omega) (by omega) hI (by omega) (by omega) hlp p r hp).mono ?_
                rintro e w9 ⟨rfl, hN9⟩
                have HN9 := Aside0.mk (fun (w10 : World) (hb : Below w9.heap.size w9 w10) => HN.out.next hN9 hb HDR.out.1 hn1 hn2 HLE.out HDR.out.2)
                have HROW9 := Aside0.mk ((HROW.out.pts (HN.out.step.trans hN9.step)).below (below_alloc (Below.refl _ _) (.cells #[.int .i64 p.f0, .int .u64 p.f1, .int .u64 p.f2] 24)))
                obtain ⟨a0, a1, a2⟩ := HROW9.out.cell HXP.out
                have hnew := blk_new w9 (.cells #[.int .i64 p.f0, .int .u64 p.f1, .int .u64 p.f2] 24)
                have b0 := (blk_cell hnew 0).trans rfl
                have b1 := (blk_cell hnew 1).trans rfl
                have b2 := (blk_cell hnew 2).trans rfl
                clear hnew hN9 hs hI
                go_wp2_with fail
                go_quiet (fail)
                go_wp2_with fail
                go_roundw
                case rel => exact ⟨i + 1, by go_num, by omega, ⟨HN9.out _ (pw_below_drewN (below_alloc (Below.refl _ _) _) _)⟩⟩
                case measure => simp [intOf]; omega
              · have t1 : decide ((i : Int) < (want.length : Int)) = false := decide_eq_false (by omega)
                have t2 : decide (i < want.length) = false := decide_eq_false hlt
                obtain ⟨ls, v, us, hs, hI, hv, hn1, hn2⟩ := HN.out.hs
                rw [List.drop_of_length_le (by omega)] at hv
                obtain rfl := hI.empty (view_nil hv.symm)
                clear hv hI hn1 hn2
                go_wp2_with fail
                refine (next16_nil hs (by omega) (by omega)).mono ?_
                rintro e w9 ⟨rfl, hN9⟩
                have HN9 := Aside0.mk (fun (w10 : World) (hb : Below w9.heap.size w9 w10) => HN.out.last hN9 hb)
                have hnew := blk_new w9 (.cells #[.int .i64 0, .int .u64 0, .int .u64 0] 24)
                have b0 := (blk_cell hnew 0).trans rfl
                have b1 := (blk_cell hnew 1).trans rfl
                have b2 := (blk_cell hnew 2).trans rfl
                clear hnew hN9 hs
                go_wp2_with fail
                go_ret
                exact ⟨rfl, below_step HB1.out (HN9.out _ (below_alloc (Below.refl _ _) _))⟩
theorem iterates_fit (A0 : Option Addr) (c0 : Nat) (l : List (List S24)) (w : World) (hC : Kd.C (Kd.slice 24 k24) w A0 l.length l) (hc : l.length ≤ c0) (h : l.length * 24 ≤ reachBytes ∧ ∀ xs ∈ l, xs.length * 24 ≤ reachBytes ∧ ∀ y ∈ xs, Fits y) :
    Calls Try.prog 4 #[.slice A0 l.length c0] w fun e w' => e = .returned (.bool true) ∧ Below w.heap.size w w' := by
  have hr : reachBytes = 140737488351232 := rfl
  rw [hr] at h
  refine iterates_calls A0 c0 l w hC hc (by omega) (fun x hx => ?_)
  have := (h.2 x hx).1
  omega
end Go.Proofs.Ytfamnbejimbenaa.X
