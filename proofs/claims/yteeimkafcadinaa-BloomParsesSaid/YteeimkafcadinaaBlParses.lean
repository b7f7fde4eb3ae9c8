/- BloomParses, walked. -/
import Derived.Test.YteeimkafcadinaaBlHas
namespace Go.Proofs.Yteeimkafcadinaa.X
open Go.RowKit Go.Sort Go.Proofs.Yteeimkafcadinaa.B Go.Proofs.Yteeimkafcadinaa Go.Proofs.YteeimkafcadinaaW.PrintWords Go.Proofs.YteeimkafcadinaaW.PrintLast Go.Proofs.YteeimkafcadinaaW.PrintMore

theorem conv_C {w : World} {A : Option Addr} {n : Nat} (c : Nat) {bs : List Int} (h : Kd.C (Kd.int .u8) w A n bs) : (convert 28 9 (.slice A n c)).run Try.prog w = .ok (.string (strOfNums bs)) w := by
  obtain ⟨hl, _, hc⟩ := h
  subst hl
  have hrd : ∃ l, (loadCells ((A.getD ⟨0, 0, none⟩)) bs.length).run Try.prog w = .ok l w ∧ l = (bs.map (Value.int .u8)).toArray := by
    refine ⟨_, ?_, rfl⟩
    have := run_loadCells_list (P := Try.prog) w (A.getD ⟨0, 0, none⟩) (bs.map (Value.int .u8)) (fun j v hj => by
      have hjl : j < bs.length := by
        rcases Nat.lt_or_ge j bs.length with h | h
        · exact h
        · simp [List.getElem?_eq_none (show (bs.map (Value.int .u8)).length ≤ j by simpa using h)] at hj
      obtain ⟨ad, rfl, hcc⟩ := hc (by omega)
      obtain ⟨cs, hs, hk, hcell⟩ := hcc j _ (List.getElem?_eq_getElem hjl)
      obtain rfl : cs = [.int .u8 bs[j]] := hk
      have := hcell 0 _ rfl
      rw [List.getElem?_map, List.getElem?_eq_getElem hjl] at hj
      obtain rfl := Option.some.inj hj
      rw [show j * (Kd.int IntKind.u8).sz + 0 = j from by show j * 1 + 0 = j; omega] at this
      exact this)
    simpa using this
  obtain ⟨l, hl, rfl⟩ := hrd
  rw [run_convert_bytes_string w 28 9 5 _ bs.length c Try.underlying28 Try.underlying5 Try.underlying9]
  cases A with
  | none =>
    have h0 : bs = [] := by
      cases bs with
      | nil => rfl
      | cons x r => obtain ⟨ad, h, _⟩ := hc (by simp); cases h
    subst h0
    rfl
  | some ad =>
    rw [show (some ad).getD ⟨0, 0, none⟩ = ad from rfl] at hl
    rw [run_bytesToString w _ bs.length c bs hl, foldl_push_bytes]
    simp [strOfNums, ByteArray.empty, ByteArray.emptyWithCapacity]
    rfl
set_option maxHeartbeats 8000000 in
theorem blparses_calls (A0 : Option Addr) (c0 : Nat) (bs : List Int) (A1 : Option Addr) (c1 : Nat) (b : List ByteArray) (w : World) (hC0 : Kd.C (Kd.int .u8) w A0 bs.length bs) (_hc0 : bs.length ≤ c0) (hB : Ad.Bytes bs) (hC1 : Kd.C Kd.string w A1 b.length b) (hc1 : b.length ≤ c1) :
    Calls Try.prog 4 #[.slice A0 bs.length c0, .slice A1 b.length c1] w fun e w' => e = .returned (.bool true) ∧ Below w.heap.size w w' := by
  have HC0 := Aside0.mk hC0
  have HC1 := Aside0.mk hC1
  have HBY := Aside0.mk hB
  by_cases hl : 16384 < bs.length
  · have t1 : decide (16384 < (bs.length : Int)) = true := decide_eq_true (by omega)
    have t2 : decide (16384 < bs.length) = true := decide_eq_true hl
    clear hC0 hC1 hB
    go_enter Try.func4, Try.ntmps4
    go_wp2
    go_ret
    exact ⟨rfl, Below.refl _ _⟩
  · have t1 : decide (16384 < (bs.length : Int)) = false := decide_eq_false (by omega)
    have t2 : decide (16384 < bs.length) = false := decide_eq_false hl
    obtain ⟨r0, hr0, hk0⟩ := heavy_calls A1 c1 b w hC1 hc1
    have HK := Aside0.mk hk0
    clear hk0 hC0 hC1 hB
    cases r0 with
    | true =>
      clear hr0
      go_enter Try.func4, Try.ntmps4
      go_wp2_with (refine HK.out.mono ?_; rintro e w1 ⟨rfl, hb1⟩; have HB := Aside0.mk hb1; clear hb1 HK)
      go_ret
      exact ⟨rfl, HB.out⟩
    | false =>
      have HL1 := Aside0.mk (hr0 rfl)
      clear hr0
      go_enter Try.func4, Try.ntmps4
      go_wp2_with (first | (refine HK.out.mono ?_; rintro e w2 ⟨rfl, hb2⟩; have HB := Aside0.mk hb2; clear hb2 HK) | ((with_reducible refine gate_dst (N := 19) rfl ?_); refine Kd.R_lit (Kd.int .u8) _ 5 ?hg (N := 19) ?hd (xs := ([] : List Int)) (inner := []) (ok := fun _ => True) (okp := fun _ => True) ?hr ?hp (fun _ hk => hk) trivial (Below.refl _ _) (Nat.le_refl _) (by simp) ?_; (case hd => rfl); (case hg => rfl); (case hr => first | (go_simp; done) | (go_simp; rfl)); (case hp => exact (Reps.none _ _)); intro v1 w4 ho5 hb hg_ hnew_; clear hg_ hnew_; have HO := Aside0.mk ho5; have HX := Aside0.mk hb; clear hb ho5) | ((with_reducible refine gate_builtin (b := .append) (xs := #[.tmp 20, .tmp 21]) rfl ?_); at_builtin; refine Kd.R_append_rows (Kd.int .u8) (w0 := w2) w2.heap.size rfl (.tmp 20) (.tmp 21) 28 5 (.int .u8 0) 1 rfl Try.underlying28 info5 rfl (by decide) (by decide) v1 [] bs _ _ _ (fun _ => True) (fun _ => False) rfl rfl HO.out ?aR (fun x cs h => h) (fun _ h => h.elim) (fun _ _ => trivial) HX.out (below_size HX.out) ?aL ?_; (case aR => exact Kd.C_below HC0.out (below_step HB.out HX.out)); (case aL => simp; omega); intro v2 w5 ho hb hg hat; rw [List.nil_append] at ho; have HOn := Aside0.mk ho; have HXn := Aside0.mk hb; clear HO HX ho hb hg hat; have HO := HOn; have HX := HXn; clear HOn HXn))
      by_cases hok : okLen bs.length = true
      · have h8 : 8 ≤ bs.length := by simp only [okLen, Bool.and_eq_true, decide_eq_true_eq] at hok; omega
        rcases brow_of_R HO.out with ⟨_, h0⟩ | ⟨g0, c2, rfl, hg0, _, hrow⟩
        · exfalso; rw [h0] at h8; simp at h8
        · obtain ⟨ad, hAd⟩ : ∃ ad, A0 = some ad := by
            obtain ⟨ad, h, _⟩ := HC0.out.2.2 (by omega)
            exact ⟨ad, h⟩
          subst hAd
          have HR5 := Aside0.mk hrow
          have HG0 := Aside0.mk hg0
          have HLT := Aside0.mk hrow.lt
          have HOK := Aside0.mk hok
          have hlen := hrow.le
          clear hrow hg0 hok HO
          with_reducible refine (parse_good ⟨g0, 0, none⟩ c2 bs _ HOK.out HBY.out (C_of_brow HR5.out)).mono ?_
          rintro e w6 ⟨g, gB, c3, rfl, hg, hgB, hF, hb6⟩
          have HF6 := Aside0.mk hF
          have HBB6 := Aside0.mk (below_step (below_step HB.out HX.out) hb6)
          have HR6 := Aside0.mk (HR5.out.below hb6)
          have HX6 := Aside0.mk (below_step HX.out hb6)
          have HNG := Aside0.mk (show g ≠ g0 ∧ gB ≠ g0 from by have := HLT.out; omega)
          clear hF hb6 hg hgB HR5 HX
          go_wp2_with fail
          with_reducible refine (refparse_good ad c0 bs _ HOK.out HBY.out (Kd.C_below HC0.out HBB6.out)).mono ?_
          rintro e w7 ⟨g', gB', c4, rfl, hg', hgB', hG, hb7⟩
          have HG7 := Aside0.mk hG
          have HF7 := Aside0.mk (HF6.out.below hb7)
          have HBB7 := Aside0.mk (below_step HBB6.out hb7)
          have HROW := Aside0.mk (HR6.out.below hb7)
          have HX7 := Aside0.mk (below_step HX6.out hb7)
          have HNG' := Aside0.mk (show g' ≠ g0 ∧ gB' ≠ g0 from by have := HR6.out.lt; omega)
          have k1 := conv_back HROW.out
          have k2 := conv_C c0 (Kd.C_below HC0.out HBB7.out)
          clear hG hb7 hg' hgB' HR6 HF6 HBB6 HX6
          go_wp2_with fail
          clear k1 k2
          go_loopw [10] (fun v10 wr => ∃ k : Nat, v10 = .int .i64 k ∧ k ≤ bs.length ∧ Aside0 (∃ ys : List Int, ys.length = bs.length ∧ BRow wr g0 c2 ys) ∧ Aside0 (Below w2.heap.size w7 wr) ∧ Aside0 (Kept w7 wr (fun k => k = g0))) (fun v10 _ => bs.length - (intOf v10).toNat)
          case atStart => exact ⟨0, rfl, by omega, ⟨bs, rfl, HROW.out⟩, ⟨Below.refl _ _⟩, ⟨Kept.refl _ _⟩⟩
          case round =>
            obtain ⟨k, rfl, hk, HYS, HXB, HXK⟩ := hrel
            by_cases hlt : k < bs.length
            · have t5 : decide ((k : Int) < (bs.length : Int)) = true := decide_eq_true (by omega)
              have t6 : decide (k < bs.length) = true := decide_eq_true hlt
              obtain ⟨ys, hys, hyr⟩ := HYS.out
              obtain ⟨x, hx⟩ : ∃ x, ys[k]? = some x := ⟨_, List.getElem?_eq_getElem (by omega)⟩
              have hcx := hyr.cell hx
              have hfx := hyr.free k
              have hlk : (k : Int) < (bs.length : Int) := by omega
              have HS1 := Aside0.mk (fun v => hyr.set k v)
              have HYL := Aside0.mk hys
              clear hx hyr hys HYS
              go_wp2
              go_roundw
              case rel => exact ⟨k + 1, by go_num, by omega, ⟨_, by rw [List.length_set]; exact HYL.out, HS1.out _⟩, ⟨HXB.out.setCell (p := ⟨g0, k, none⟩) HG0.out _⟩, ⟨HXK.out.setCell (p := ⟨g0, k, none⟩) (.inl rfl) _⟩⟩
              case measure => simp [intOf]; omega
            · have t5 : decide ((k : Int) < (bs.length : Int)) = false := decide_eq_false (by omega)
              have t6 : decide (k < bs.length) = false := decide_eq_false hlt
              have HF8 := Aside0.mk (HF7.out.move (HXK.out.2 g HF7.out.lt.1 HNG.out.1) (HXK.out.2 gB HF7.out.lt.2 HNG.out.2))
              have HG8 := Aside0.mk (HG7.out.move (HXK.out.2 g' HG7.out.lt.1 HNG'.out.1) (HXK.out.2 gB' HG7.out.lt.2 HNG'.out.2))
              have HBB := Aside0.mk (show Below w.heap.size w wr from HBB7.out.trans (HXB.out.mono HB.out.size))
              obtain ⟨w8, hw8⟩ : ∃ w8 : World, w8 = wr := ⟨_, rfl⟩
              subst hw8
              clear HF7 HG7 HBB7 HXB HXK HYS HROW HX7
              have hbl := HL1.out.1
              have tk1 : True := trivial
              go_wp2_with fail
              go_loopw [11] (fun v11 wr => ∃ i : Nat, v11 = .int .i64 i ∧ i ≤ b.length ∧ Aside0 (Below w8.heap.size w8 wr)) (fun v11 _ => b.length - (intOf v11).toNat)
              case atStart => exact ⟨0, rfl, by omega, Aside0.mk (Below.refl _ _)⟩
              case round =>
                obtain ⟨i, rfl, hi, HZ⟩ := hrel
                by_cases hlt2 : i < b.length
                · have t1 : decide ((i : Int) < (b.length : Int)) = true := decide_eq_true (by omega)
                  have t2 : decide (i < b.length) = true := decide_eq_true hlt2
                  obtain ⟨ad2, s, hA, hsi, hcs⟩ := at_name (Kd.C_below HC1.out (below_step HBB.out HZ.out)) i hlt2
                  subst hA
                  have HAT := Aside0.mk (fun (W : World) (hW : Below w.heap.size w W) => (show W.cell? (ad2.add i) = some (.string s) from by
                    obtain ⟨ad3, s2, e1, e2, h⟩ := at_name (Kd.C_below HC1.out hW) i hlt2
                    cases e1
                    rw [hsi] at e2
                    cases e2
                    exact h))
                  have HS := Aside0.mk (HL1.out.small s (List.mem_of_getElem? hsi))
                  have hi2 : (i : Int) < (b.length : Int) := by omega
                  clear hsi
                  go_wp2_with fail
                  go_region_law (first | (clear tk1; refine goes_ Try.func13 (by kernel_rfl) rfl #[.pointer (some ⟨g, 0, none⟩), .string s] (by rfl) rfl rfl (by simp only [List.map_toArray, List.map_cons, List.map_nil]; rfl) ?_; refine (has_calls s _ HS.out (HF8.out.below (below_drew HZ.out))).mono ?_; rintro e w8 ⟨rfl, hb8⟩; refine ⟨_, rfl, ?_⟩; have HZ8 := Aside0.mk (below_step (below_drew HZ.out) hb8); have hcs8 := HAT.out _ (below_step HBB.out HZ8.out); clear hb8; have tk2 : True := trivial) | (clear tk2; refine goes_ Try.func14 (by kernel_rfl) rfl #[.pointer (some ⟨g', 0, none⟩), .string s] (by rfl) rfl rfl (by simp only [List.map_toArray, List.map_cons, List.map_nil]; rfl) ?_; refine (refhas_calls s _ HS.out (HG8.out.below HZ8.out)).mono ?_; rintro e w9 ⟨rfl, hb9⟩; refine ⟨_, rfl, ?_⟩; have HZ9 := Aside0.mk (below_step HZ8.out hb9); clear hb9))
                  all_goals
                    go_simp
                    go_wp2
                    go_roundw
                    case rel => exact ⟨i + 1, by go_num, by omega, HZ9⟩
                    case measure => simp [intOf]; omega
                · have t1 : decide ((i : Int) < (b.length : Int)) = false := decide_eq_false (by omega)
                  have t2 : decide (i < b.length) = false := decide_eq_false hlt2
                  have HF9 := Aside0.mk (HF8.out.below HZ.out)
                  have HB9 := Aside0.mk (below_step HBB.out HZ.out)
                  have k2 := conv_C c0 (Kd.C_below HC0.out (below_drew HB9.out))
                  clear HF8 HG8 HZ
                  go_wp2_with fail
                  go_region_law (clear tk1; refine goes_ Try.func10 (by kernel_rfl) rfl #[.pointer (some ⟨g, 0, none⟩)] (by rfl) rfl rfl (by simp only [List.map_toArray, List.map_cons, List.map_nil]; rfl) ?_; refine (bytes_calls _ (HF9.out.below (below_drew (Below.refl _ _)))).mono ?_; rintro e w10 ⟨g7, c7, rfl, hg7, hr7, hb7⟩; refine ⟨_, rfl, ?_⟩; have hx7 := below_step (below_drew (Below.refl _ _)) hb7; have HB10 := Aside0.mk (below_step HB9.out hx7); have k7 := conv_back hr7; have k8 := conv_C c0 (Kd.C_below HC0.out HB10.out); clear hx7 hb7 hr7)
                  all_goals
                    go_simp
                    go_wp2
                    go_ret
                    exact ⟨rfl, HB10.out⟩
      · have hok2 : okLen bs.length = false := by simpa using hok
        have HOK := Aside0.mk hok2
        have HOC := Aside0.mk (show bs.length = 0 ∨ ∃ g0 c2, v2 = .slice (some ⟨g0, 0, none⟩) bs.length c2 ∧ w2.heap.size ≤ g0 ∧ BRow w5 g0 c2 bs from by
          rcases brow_of_R HO.out with ⟨_, h0⟩ | ⟨g0, c2, h1, hg0, _, hrow⟩
          · exact .inl (by rw [h0]; rfl)
          · exact .inr ⟨g0, c2, h1, hg0, hrow⟩)
        obtain ⟨A2, c2, hv2, hle2, hC2⟩ := Kd.R_reads HO.out
        subst hv2
        have k1 := conv_C c2 hC2
        have k2 := conv_C c0 (Kd.C_below HC0.out (below_step HB.out HX.out))
        have hlen : bs.length ≤ 9223372036854775807 := hC2.2.1
        clear hok hok2 hC2
        with_reducible refine (parse_bad A2 c2 bs.length _ HOK.out hlen).mono ?_
        rintro e w6 ⟨rfl, hw6⟩
        subst hw6
        go_wp2_with fail
        with_reducible refine (refparse_bad A0 c0 bs.length _ HOK.out hlen).mono ?_
        rintro e w7 ⟨rfl, hw7⟩
        subst hw7
        go_wp2_with fail
        clear k1 k2
        have hbl := HL1.out.1
        rcases HOC.out with hz | ⟨g0, c3, hA2, hg0, hrow⟩
        · go_loopw [10] (fun v10 wr => v10 = .int .i64 0 ∧ wr = w7) (fun v10 _ => 0)
          case atStart => exact ⟨rfl, rfl⟩
          case round =>
            obtain ⟨rfl, rfl⟩ := hrel
            have t5 : decide ((0 : Int) < (bs.length : Int)) = false := decide_eq_false (by omega)
            have t6 : decide (0 < bs.length) = false := decide_eq_false (by omega)
            have HBB := Aside0.mk (below_step HB.out HX.out)
            obtain ⟨w8, hw8⟩ : ∃ w8 : World, w8 = wr := ⟨_, rfl⟩
            subst hw8
            go_wp2_with fail
            go_loopw [11] (fun v11 wr => v11 = .int .i64 0 ∧ wr = w8) (fun v11 _ => 0)
            case atStart => exact ⟨rfl, rfl⟩
            case round =>
              obtain ⟨rfl, rfl⟩ := hrel
              by_cases hb0 : 0 < b.length
              · have t7 : decide ((0 : Int) < (b.length : Int)) = true := decide_eq_true (by omega)
                have t8 : decide (0 < b.length) = true := decide_eq_true hb0
                go_wp2
                go_quiet (fail)
                go_wp2
                go_ret
                exact ⟨rfl, pw_below_drewN HBB.out _⟩
              · have t7 : decide ((0 : Int) < (b.length : Int)) = false := decide_eq_false (by omega)
                have t8 : decide (0 < b.length) = false := decide_eq_false hb0
                go_wp2
                go_quiet (fail)
                go_wp2
                go_ret
                exact ⟨rfl, pw_below_drewN HBB.out _⟩
        · injection hA2 with hA2 _ hc2
          subst hA2
          subst hc2
          have HROW := Aside0.mk hrow
          have HG0 := Aside0.mk hg0
          clear hrow hg0 HO HOC
          go_loopw [10] (fun v10 wr => ∃ k : Nat, v10 = .int .i64 k ∧ k ≤ bs.length ∧ Aside0 (∃ ys : List Int, ys.length = bs.length ∧ BRow wr g0 c2 ys) ∧ Aside0 (Below w2.heap.size w7 wr) ∧ Aside0 (Kept w7 wr (fun k => k = g0))) (fun v10 _ => bs.length - (intOf v10).toNat)
          case atStart => exact ⟨0, rfl, by omega, ⟨bs, rfl, HROW.out⟩, ⟨Below.refl _ _⟩, ⟨Kept.refl _ _⟩⟩
          case round =>
            obtain ⟨k, rfl, hk, HYS, HXB, HXK⟩ := hrel
            by_cases hlt : k < bs.length
            · have t5 : decide ((k : Int) < (bs.length : Int)) = true := decide_eq_true (by omega)
              have t6 : decide (k < bs.length) = true := decide_eq_true hlt
              obtain ⟨ys, hys, hyr⟩ := HYS.out
              obtain ⟨x, hx⟩ : ∃ x, ys[k]? = some x := ⟨_, List.getElem?_eq_getElem (by omega)⟩
              have hcx := hyr.cell hx
              have hfx := hyr.free k
              have hlk : (k : Int) < (bs.length : Int) := by omega
              have HS1 := Aside0.mk (fun v => hyr.set k v)
              have HYL := Aside0.mk hys
              clear hx hyr hys HYS
              go_wp2
              go_roundw
              case rel => exact ⟨k + 1, by go_num, by omega, ⟨_, by rw [List.length_set]; exact HYL.out, HS1.out _⟩, ⟨HXB.out.setCell (p := ⟨g0, k, none⟩) HG0.out _⟩, ⟨HXK.out.setCell (p := ⟨g0, k, none⟩) (.inl rfl) _⟩⟩
              case measure => simp [intOf]; omega
            · have t5 : decide ((k : Int) < (bs.length : Int)) = false := decide_eq_false (by omega)
              have t6 : decide (k < bs.length) = false := decide_eq_false hlt
              have HBB := Aside0.mk (show Below w.heap.size w wr from (below_step HB.out HX.out).trans (HXB.out.mono HB.out.size))
              obtain ⟨w8, hw8⟩ : ∃ w8 : World, w8 = wr := ⟨_, rfl⟩
              subst hw8
              go_wp2_with fail
              go_loopw [11] (fun v11 wr => v11 = .int .i64 0 ∧ wr = w8) (fun v11 _ => 0)
              case atStart => exact ⟨rfl, rfl⟩
              case round =>
                obtain ⟨rfl, rfl⟩ := hrel
                by_cases hb0 : 0 < b.length
                · have t7 : decide ((0 : Int) < (b.length : Int)) = true := decide_eq_true (by omega)
                  have t8 : decide (0 < b.length) = true := decide_eq_true hb0
                  go_wp2
                  go_quiet (fail)
                  go_wp2
                  go_ret
                  exact ⟨rfl, pw_below_drewN HBB.out _⟩
                · have t7 : decide ((0 : Int) < (b.length : Int)) = false := decide_eq_false (by omega)
                  have t8 : decide (0 < b.length) = false := decide_eq_false hb0
                  go_wp2
                  go_quiet (fail)
                  go_wp2
                  go_ret
                  exact ⟨rfl, pw_below_drewN HBB.out _⟩
end Go.Proofs.Yteeimkafcadinaa.X
