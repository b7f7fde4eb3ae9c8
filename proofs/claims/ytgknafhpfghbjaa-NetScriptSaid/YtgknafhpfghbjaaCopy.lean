/- bytes.Clone and net's copied; the cut of a row of packets and its end put together again. -/
import Derived.Test.YtgknafhpfghbjaaPk
namespace Go.Proofs.Ytgknafhpfghbjaa.X
open Go.RowKit Go.Proofs.Ytgknafhpfghbjaa.B Go.Proofs.Ytgknafhpfghbjaa Go.Proofs.YtgknafhpfghbjaaW.PrintWords Go.Proofs.YtgknafhpfghbjaaW.PrintLast Go.Proofs.YtgknafhpfghbjaaW.PrintMore

theorem take_run {v : Value} {xs : List S32} (i : Nat) (hi : i < xs.length) (hl : xs.length ≤ 1000) (ad : Addr) (c : Nat) (hv : v = .slice (some ad) xs.length c) (hc : xs.length ≤ c) :
    ∃ A2, (∀ W' : World, (Instr.slice 47 (.slice (some ad) xs.length c) none (some (.int .i64 (i : Int))) (some (.int .i64 (i : Int)))).run Try.prog W' = .ok (.slice (some ad) i i) W') ∧
      (∀ W' : World, (Instr.slice 47 (.slice (some ad) xs.length c) (some (.int .i64 ((i : Int) + 1))) none none).run Try.prog W' = .ok (.slice A2 (xs.length - (i + 1)) (c - (i + 1))) W') ∧
      ∀ (W : World) (ty : TypeId) (base : Nat) (ok : Nat → Prop), PRow W base ok v xs → base ≤ W.heap.size → (∀ k, W.heap.size ≤ k → ok k) →
        ∃ v1 w1, (Builtin.append_ #[47, 47] ty #[.slice (some ad) i i, .slice A2 (xs.length - (i + 1)) (c - (i + 1))]).run Try.prog W = .ok v1 w1 ∧ PRow w1 base ok v1 (xs.eraseIdx i) ∧ W.grownBy w1 none ∧ (v1.ownBlock = v.ownBlock ∨ ∃ b, v1.ownBlock = some b ∧ W.heap.size ≤ b) := by
  obtain ⟨i0, hi0, hzz⟩ := Option.map_eq_some_iff.1 info32
  simp only [Prod.mk.injEq] at hzz
  obtain ⟨hz0, hz1, hz2⟩ := hzz
  have hel : Try.prog.elem 47 = 32 := by simp [Program.elem, Try.underlying47]
  have hu : Try.prog.underlying 47 = some (.slice (Try.prog.elem 47)) := by rw [hel]; exact Try.underlying47
  have ha : ad.add 0 = ad := by simp [Addr.add]
  refine ⟨if c = i + 1 then some ad else some (ad.add ((i + 1) * 3)), fun W' => ?_, fun W' => ?_, ?_⟩
  · rw [run_slice_hm W' 47 (some ad) xs.length c hu .i64 .i64 (i : Int) (i : Int) (by omega) (by omega) (by omega), hel]
    simp [sizeOf, typeInfo, hi0, sliced, Result.andThen, ha]
  · rw [run_slice_l W' 47 (some ad) xs.length c hu .i64 ((i : Int) + 1) (by omega) (by omega), hel, show ((i : Int) + 1).toNat = i + 1 by omega]
    simp only [sizeOf, typeInfo, sliced, Result.andThen, Sem.run_bind, Sem.run_pure]
    split <;> simp_all
  · intro W ty base ok HO hbase hfresh
    subst hv
    obtain ⟨A', c', c0, he, hcc, hle, hr⟩ := HO
    injection he with he1 he2 he3
    subst he1
    subst he3
    have hr0 := hr
    obtain ⟨h0, inner, hown, hrr⟩ := hr
    obtain ⟨gg, cap, he, hgb, hglt⟩ := hown.form (by omega)
    injection he with he1 he2 he3
    injection he1 with he1
    subst he1
    have hilen : inner.length = xs.length * 3 := hown.1
    have hcell : ∀ j y, inner[j]? = some y → W.cell? ((⟨gg, 0, none⟩ : Addr).add j) = some y := hown.cells (g := gg) rfl
    by_cases hlast : i + 1 = xs.length
    · refine ⟨.slice (some ⟨gg, 0, none⟩) i i, W, ?_, ?_, World.grownBy.refl W _, .inl rfl⟩
      · have hz : xs.length - (i + 1) = 0 := by omega
        rw [hz]
        have key : ∀ (a2 : Addr) (c2 : Nat), (Builtin.append_ #[47, 47] ty #[.slice (some ⟨gg, 0, none⟩) i i, .slice (some a2) 0 c2]).run Try.prog W = .ok (.slice (some ⟨gg, 0, none⟩) i i) W := by
          intro a2 c2
          have := run_append_room_cells (P := Try.prog) W 47 ty 32 i0 Try.underlying47 hi0 gg 0 i i a2 0 c2 [] (by simp) (by simp) (by simp) (by omega) (by simp) (by simp)
          simpa [World.setCells] using this
        split
        · exact key _ _
        · exact key _ _
      · have hx : xs.eraseIdx i = xs.take i := by rw [List.eraseIdx_eq_take_drop_succ, List.drop_of_length_le (by omega), List.append_nil]
        rw [hx]
        have hlt : (xs.take i).length = i := by rw [List.length_take]; omega
        refine ⟨some ⟨gg, 0, none⟩, i, c0, by rw [hlt], .inr hlt.symm, by omega, ?_⟩
        have := Kd.R_take hr0 (m := i) (by omega)
        rw [hlt]
        exact this
    · have hne : c ≠ i + 1 := by omega
      rw [if_neg hne]
      have hnl : (inner.drop ((i + 1) * 3)).length = (xs.length - (i + 1)) * 3 := by rw [List.length_drop, hilen]; omega
      have hol : (inner.take (i * 3)).length = i * 3 := by rw [List.length_take, hilen]; omega
      obtain ⟨v1, w1, hrun, h2, hg⟩ := run_append_arg_grows (P := Try.prog) W 47 ty 32 i0 _ 3 40 Try.underlying47 hi0 hz0 hz1 hz2 rfl (by decide) ⟨gg, 0, none⟩ i i (inner.take (i * 3)) hol
        (fun j u hj => by
          rw [List.getElem?_take] at hj
          split at hj
          · exact hcell j u hj
          · cases hj)
        ((⟨gg, 0, none⟩ : Addr).add ((i + 1) * 3)) (xs.length - (i + 1)) (c - (i + 1)) (inner.drop ((i + 1) * 3)) hnl
        (fun j u hj => by
          rw [List.getElem?_drop] at hj
          have := hcell _ u hj
          rw [add_plain] at this
          rw [add_plain]
          have e : (⟨gg, (i + 1) * 3, none⟩ : Addr).add j = ⟨gg, (i + 1) * 3 + j, none⟩ := by unfold Addr.add; split <;> simp_all
          rw [e]
          exact this)
        (by omega) (by simp only [maxLen]; omega) (by omega)
      refine ⟨v1, w1, hrun, ?_, hg, ?_⟩
      · obtain ⟨g1, cap1, rfl, hb1, hlt1⟩ := h2.form (by omega)
        refine prow_of_R ⟨fun k hk => ?_, inner.take (i * 3) ++ inner.drop ((i + 1) * 3), ?_, ?_⟩
        · injection hk with hk
          subst hk
          exact hfresh _ hb1
        · have : (xs.eraseIdx i).length = i + (xs.length - (i + 1)) := by rw [List.length_eraseIdx_of_lt hi]; omega
          rw [this]
          exact own_weaken h2 hbase
        · rw [List.eraseIdx_eq_take_drop_succ]
          have hm : ∀ x cs, k32.M W base (fun k => ok k ∧ some k ≠ (Value.slice (some (⟨gg, 0, none⟩ : Addr)) xs.length c0).ownBlock) x cs → k32.M w1 base (fun k => ok k ∧ some k ≠ (Value.slice (some (⟨g1, 0, none⟩ : Addr)) (i + (xs.length - (i + 1))) cap1).ownBlock) x cs := by
            intro x cs hx
            have hx2 := k32.M_move (w1 := w1) (fun k hk => hg.block k hk.2.2.1 (by simp)) (k32.M_bound hx)
            refine k32.M_mono (fun k hk => ⟨hk.1.1, ?_⟩) hx2
            intro he
            injection he with he
            have he2 : k = g1 := he
            have h3 : k < W.heap.size := hk.2.2.1
            omega
          exact (Kd.reps_append (Kd.reps_take hrr (by omega)) (Kd.reps_drop hrr)).imp_ hm
      · obtain ⟨g1, cap1, rfl, hb1, _⟩ := h2.form (by omega)
        exact .inr ⟨g1, rfl, hb1⟩
set_option maxHeartbeats 1000000 in
theorem clone_some (ad : Addr) (c : Nat) (xs : List Int) (w : World) (hn : xs.length < 8796093022208) (hC : Kd.C (Kd.int .u8) w (some ad) xs.length xs) :
    Calls Try.prog 25 #[.slice (some ad) xs.length c] w fun e w' => ∃ v : Value, e = .returned v ∧ Kd.R (Kd.int .u8) 5 w' w.heap.size (fun _ => True) v xs ∧ Below w.heap.size w w' := by
  have hq := fun (W : World) => Lib.run_eql_slice_nil (P := Try.prog) W 28 5 (some ad) xs.length c 0 0 Try.underlying28
  have HR0 := Aside0.mk hC
  have HB := Aside0.mk (Below.refl w.heap.size w)
  have HN := Aside0.mk hn
  clear hC hn
  go_enter Try.func25, Try.ntmps25
  go_wp2_with (first | ((with_reducible refine gate_dst (N := 5) rfl ?_); refine Kd.R_lit (Kd.int .u8) _ 5 ?hg (N := 5) ?hd (xs := ([] : List Int)) (inner := []) (ok := fun _ => True) (okp := fun _ => True) ?hr ?hp (fun _ hk => hk) trivial (Below.refl _ _) (Nat.le_refl _) (by simp) ?_; (case hd => rfl); (case hg => rfl); (case hr => first | (go_simp; done) | (go_simp; rfl)); (case hp => exact (Reps.none _ _)); intro v261 w4 ho5 hb hg_ hnew_; clear hg_ hnew_; have n0_ := Aside0.mk (Kd.R_lower ho5 (below_size (by repeat (first | (with_reducible first | exact HB.out | apply below_alloc | apply pw_below_drewN | apply below_drew1) | exact HB.out)))); have n1_ := Aside0.mk (below_step (by repeat (first | (with_reducible first | exact HB.out | apply below_alloc | apply pw_below_drewN | apply below_drew1) | exact HB.out)) hb); clear HB; have HO262 := n0_; have HB := n1_; clear n0_ n1_; clear hb ho5) | ((with_reducible refine gate_builtin (b := .append) (xs := #[.tmp 5, .tmp 6]) rfl ?_); at_builtin; refine Kd.R_append_rows (Kd.int .u8) (w0 := w) w.heap.size rfl (.tmp 5) (.tmp 6) 28 5 (.int .u8 0) 1 rfl Try.underlying28 info5 rfl (by decide) (by decide) v261 [] xs _ _ _ (fun _ => True) (fun _ => False) rfl rfl ?aO ?aR (fun x cs h => h) (fun _ h => h.elim) ?aF ?aB ?aS ?aL ?_; (case aR => repeat (first | exact (Kd.C_below HR0.out HB.out) | (with_reducible refine Kd.C_alloc ?_ _) | (with_reducible refine Kd.C_drewN ?_ _) | (with_reducible refine Kd.C_drew ?_))); (case aB => exact (by repeat (first | (with_reducible first | exact HB.out | apply below_alloc | apply pw_below_drewN | apply below_drew1) | exact HB.out))); (case aF => exact (fun _ _ => trivial)); (case aO => exact (by (with_reducible repeat (first | apply Kd.R_alloc | apply Kd.R_drewN | apply Kd.R_drew)); exact HO262.out)); (case aS => exact (below_size (by repeat (first | (with_reducible first | exact HB.out | apply below_alloc | apply pw_below_drewN | apply below_drew1) | exact HB.out)))); (case aL => have := HN.out; simp; omega); intro v264 w6 ho hb hg hat; have n0_ := Aside0.mk (hb); have n1_ := Aside0.mk (ho); clear HB; clear HO262; have HB := n0_; have HO265 := n1_; clear n0_ n1_; clear ho hb hg hat))
  go_ret
  exact ⟨_, rfl, HO265.out, HB.out⟩
theorem clone_none (c : Nat) (w : World) :
    Calls Try.prog 25 #[.slice none 0 c] w fun e w' => ∃ v : Value, e = .returned v ∧ Kd.R (Kd.int .u8) 5 w' w.heap.size (fun _ => True) v [] ∧ Below w.heap.size w w' := by
  have hq := fun (W : World) => Lib.run_eql_slice_nil (P := Try.prog) W 28 5 none 0 c 0 0 Try.underlying28
  go_enter Try.func25, Try.ntmps25
  go_wp2
  go_ret
  exact ⟨_, rfl, Kd.R_nil _ _ _ _ _, Below.refl _ _⟩
theorem clone_calls (A : Option Addr) (c : Nat) (xs : List Int) (w : World) (hn : xs.length < 8796093022208) (hC : Kd.C (Kd.int .u8) w A xs.length xs) :
    Calls Try.prog 25 #[.slice A xs.length c] w fun e w' => ∃ v : Value, e = .returned v ∧ Kd.R (Kd.int .u8) 5 w' w.heap.size (fun _ => True) v xs ∧ Below w.heap.size w w' := by
  cases A with
  | some ad => exact clone_some ad c xs w hn hC
  | none =>
    have h0 : xs = [] := by
      rcases Nat.eq_zero_or_pos xs.length with h | h
      · exact List.eq_nil_of_length_eq_zero h
      · obtain ⟨ad, he, _⟩ := hC.2.2 h
        cases he
    subst h0
    exact clone_none c w
set_option maxHeartbeats 1000000 in
theorem copied_calls (f t : Int) (A : Option Addr) (c : Nat) (xs : List Int) (w : World) (hn : xs.length < 8796093022208) (hC : Kd.C (Kd.int .u8) w A xs.length xs) :
    Calls Try.prog 22 #[.agg #[.int .i64 f, .int .i64 t, .slice A xs.length c]] w fun e w' => ∃ v : Value, e = .returned (.agg #[.int .i64 f, .int .i64 t, v]) ∧ Kd.R (Kd.int .u8) 5 w' w.heap.size (fun _ => True) v xs ∧ Below w.heap.size w w' := by
  have HC := Aside0.mk hC
  clear hC
  go_enter Try.func22, Try.ntmps22
  go_wp2_with fail
  refine (clone_calls A c xs _ hn (by (with_reducible repeat (refine Kd.C_alloc ?_ _)); exact HC.out)).mono ?_
  rintro e w1 ⟨v, rfl, hv, hb1⟩
  obtain ⟨A1, c1, rfl, hl1, _⟩ := Kd.R_reads hv
  have HV := Aside0.mk (Kd.R_lower (base' := w.heap.size) hv (by simp; omega))
  have HB := Aside0.mk (below_step (below_alloc (below_alloc (Below.refl w.heap.size w) _) _) hb1)
  have hx1 := blk_below (blk_alloc (blk_new w (.cells #[.int .i64 f, .int .i64 t, .slice A xs.length c] 32)) (.cells #[.int .i64 0, .int .i64 0, .slice none 0 0] 32)) hb1
  have hx2 := blk_below (blk_new (w.alloc (.cells #[.int .i64 f, .int .i64 t, .slice A xs.length c] 32)) (.cells #[.int .i64 0, .int .i64 0, .slice none 0 0] 32)) hb1
  have hs2 : (w.alloc (.cells #[.int .i64 f, .int .i64 t, .slice A xs.length c] 32)).heap.size = w.heap.size + 1 := by simp
  rw [hs2] at hx2
  have ha0 := (blk_cell hx1 0).trans rfl
  have ha1 := (blk_cell hx1 1).trans rfl
  have ha2 := (blk_cell hx1 2).trans rfl
  have ha3 := blk_frozen hx1 2
  have hc0 := (blk_cell hx2 0).trans rfl
  have hc1 := (blk_cell hx2 1).trans rfl
  have hc2 := (blk_cell hx2 2).trans rfl
  have hc3 := blk_frozen hx2 0
  have hc4 := blk_frozen hx2 1
  have hc5 := blk_frozen hx2 2
  clear hb1 hv hs2
  go_wp2_with fail
  refine bodyPost_ret (v := .agg #[.int .i64 f, .int .i64 t, .slice A1 xs.length c1]) (by simp [results, Try.results22, go_sem, *]) rfl ⟨_, rfl, ?_, ?_⟩
  · exact Kd.R_set (Kd.R_set (Kd.R_set (Kd.R_set HV.out hx1 (by simp [Kd.int, Kd.scalar]) 2 _) (blk_far hx2 (by simp) _) (by simp [Kd.int, Kd.scalar]) 0 _) (blk_set (blk_far hx2 (by simp) _) 0 _) (by simp [Kd.int, Kd.scalar]) 1 _) (blk_set (blk_set (blk_far hx2 (by simp) _) 0 _) 1 _) (by simp [Kd.int, Kd.scalar]) 2 _
  · exact below_set (below_set (below_set (below_set HB.out (Nat.le_refl _)) (by simp)) (by simp)) (by simp)
end Go.Proofs.Ytgknafhpfghbjaa.X
