/- has and At of the reference, walked; what its Take appends. -/
import Derived.Test.YtgknafhpfghbjaaDrop
import Derived.Test.YtgknafhpfghbjaaRefSend
set_option linter.unusedVariables false
namespace Go.Proofs.Ytgknafhpfghbjaa.X
open Go.RowKit Go.Proofs.Ytgknafhpfghbjaa.B Go.Proofs.Ytgknafhpfghbjaa Go.Proofs.YtgknafhpfghbjaaW.PrintWords Go.Proofs.YtgknafhpfghbjaaW.PrintLast Go.Proofs.YtgknafhpfghbjaaW.PrintMore

theorem has_calls {w : World} {base g : Nat} {ok : Nat → Prop} {v : Value} {xs : List S32} (hN : Net 49 w base g ok v xs) (i : Int) :
    Calls Try.prog 24 #[.pointer (some ⟨g, 0, none⟩), .int .i64 i] w fun e w' => e = .returned (.bool (isAt xs i)) ∧ w' = w := by
  have hc := hN.cell
  have hle := hN.le
  obtain ⟨A, c, hv, hlc, _⟩ := hN.row.reads
  subst hv
  clear hN
  by_cases h0 : i < 0
  · have he : isAt xs i = false := isAt_false.2 (.inl h0)
    rw [he]
    have t1 : decide (0 ≤ i) = false := decide_eq_false (by omega)
    go_enter Try.func24, Try.ntmps24
    go_wp2
    go_ret
    exact ⟨rfl, rfl⟩
  · have t1 : decide (0 ≤ i) = true := decide_eq_true (by omega)
    have he : isAt xs i = decide (i < (xs.length : Int)) := by simp [isAt, t1]
    rw [he]
    go_enter Try.func24, Try.ntmps24
    go_wp2
    go_ret
    exact ⟨rfl, rfl⟩
set_option maxHeartbeats 4000000 in
theorem refat_calls {w : World} {base g : Nat} {ok : Nat → Prop} {v : Value} {xs : List S32} (hN : Net 49 w base g ok v xs) (hbase : base ≤ w.heap.size) (i : Int) :
    Calls Try.prog 21 #[.pointer (some ⟨g, 0, none⟩), .int .i64 i] w fun e w' => ∃ A c, e = .returned (.tuple #[.agg #[.int .i64 (takeP xs i).f0, .int .i64 (takeP xs i).f1, .slice A (takeP xs i).f2.length c], .bool (isAt xs i)]) ∧ (takeP xs i).f2.length ≤ c ∧ Kd.R (Kd.int .u8) 5 w' w.heap.size (fun _ => True) (.slice A (takeP xs i).f2.length c) (takeP xs i).f2 ∧ Below w.heap.size w w' := by
  cases hi : isAt xs i with
  | false =>
    have hp : takeP xs i = z32 := by simp [takeP, hi]
    rw [hp]
    have HN := Aside0.mk (hN.alloc (.cells #[.int .i64 0, .int .i64 0, .slice none 0 0] 32))
    have HI := Aside0.mk hi
    clear hN hp hi
    go_enter Try.func21, Try.ntmps21
    go_wp2_with (refine (has_calls HN.out i).mono ?_; rintro e w' ⟨rfl, rfl⟩; rw [HI.out])
    exact bodyPost_ret (v := .tuple #[.agg #[.int .i64 0, .int .i64 0, .slice none 0 0], .bool false]) (by simp [results, Try.results21, go_sem, *]) rfl ⟨none, 0, rfl, Nat.le_refl _, Kd.R_nil _ _ _ _ _, (by repeat (first | exact Below.refl _ _ | (refine below_set ?_ (by first | exact Nat.le_refl _ | (simp; done) | (simp; omega))) | apply below_alloc))⟩
  | true =>
    have hp : takeP xs i = rd_T32 xs i := by simp [takeP, hi]
    rw [hp]
    obtain ⟨h0, h1⟩ := isAt_true.1 hi
    have hs := hN.small _ (rd_mem hi)
    have hc := (hN.alloc (.cells #[.int .i64 0, .int .i64 0, .slice none 0 0] 32)).cell
    have hle := hN.le
    obtain ⟨ad, c, u, hv, e0, e1, e2, hu⟩ := (hN.alloc (.cells #[.int .i64 0, .int .i64 0, .slice none 0 0] 32)).at_ i h0 h1
    obtain ⟨A1, c1, hu1, hl1, hC1⟩ := Kd.R_reads hu
    subst hu1
    subst hv
    have HC := Aside0.mk hC1
    have HN := Aside0.mk (hN.alloc (.cells #[.int .i64 0, .int .i64 0, .slice none 0 0] 32))
    have HI := Aside0.mk hi
    clear hN hu hC1 hi hp
    generalize rd_T32 xs i = x at e0 e1 e2 hs HC hl1 ⊢
    go_enter Try.func21, Try.ntmps21
    go_wp2_with (refine (has_calls HN.out i).mono ?_; rintro e w' ⟨rfl, rfl⟩; rw [HI.out])
    refine (refcopied_calls x.f0 x.f1 A1 c1 x.f2 _ (by omega) hl1 HC.out).mono ?_
    rintro e w1 ⟨u1, rfl, hu1, hb1⟩
    obtain ⟨A2, c2, hv2, hl2, _⟩ := Kd.R_reads hu1
    subst hv2
    have HU := Aside0.mk (Kd.R_lower (base' := w.heap.size) hu1 (by simp))
    have HB := Aside0.mk (below_step (below_alloc (Below.refl w.heap.size w) _) hb1)
    have hx := blk_below (blk_new w (.cells #[.int .i64 0, .int .i64 0, .slice none 0 0] 32)) hb1
    have ha0 := (blk_cell hx 0).trans rfl
    have ha1 := (blk_cell hx 1).trans rfl
    have ha2 := (blk_cell hx 2).trans rfl
    have hf0 := blk_frozen hx 0
    have hf1 := blk_frozen hx 1
    have hf2 := blk_frozen hx 2
    clear hb1 hu1 hc e0 e1 e2
    go_wp2_with fail
    refine bodyPost_ret (v := .tuple #[.agg #[.int .i64 x.f0, .int .i64 x.f1, .slice A2 x.f2.length c2], .bool true]) (by simp [results, Try.results21, go_sem, *]) rfl ⟨_, _, rfl, hl2, ?_, ?_⟩
    · exact Kd.R_set (Kd.R_set (Kd.R_set HU.out hx (by simp [Kd.int, Kd.scalar]) 0 _) (blk_set hx 0 _) (by simp [Kd.int, Kd.scalar]) 1 _) (blk_set (blk_set hx 0 _) 1 _) (by simp [Kd.int, Kd.scalar]) 2 _
    · exact below_set (below_set (below_set HB.out (Nat.le_refl _)) (Nat.le_refl _)) (Nat.le_refl _)
theorem add_add (a : Addr) (m n : Nat) : (a.add m).add n = a.add (m + n) := by
  unfold Addr.add
  split <;> split <;> simp_all [Nat.add_assoc]
theorem cut_take {w : World} {Rr : S32 → List Value → Prop} {A : Option Addr} {n : Nat} {xs : List S32} (h : ReadsRow Rr 3 w A n xs) {i : Nat} (hi : i ≤ n) : ReadsRow Rr 3 w A i (xs.take i) := by
  obtain ⟨h1, h2, h3⟩ := h
  refine ⟨by rw [List.length_take]; omega, by omega, fun hp => ?_⟩
  obtain ⟨ad, e, hc⟩ := h3 (by omega)
  refine ⟨ad, e, fun j p hj => hc j p ?_⟩
  rw [List.getElem?_take] at hj
  split at hj
  · exact hj
  · cases hj
theorem cut_drop {w : World} {Rr : S32 → List Value → Prop} {A : Option Addr} {n c : Nat} {xs : List S32} (h : ReadsRow Rr 3 w A n xs) {i : Nat} (hi : i ≤ n) (hc : n ≤ c) : ReadsRow Rr 3 w (if c = i then A else A.map (·.add (i * 3))) (n - i) (xs.drop i) := by
  obtain ⟨h1, h2, h3⟩ := h
  refine ⟨by rw [List.length_drop]; omega, by omega, fun hp => ?_⟩
  obtain ⟨ad, e, hcc⟩ := h3 (by omega)
  refine ⟨ad.add (i * 3), by rw [if_neg (by omega), e]; rfl, fun j p hj => ?_⟩
  rw [List.getElem?_drop] at hj
  obtain ⟨cs, hl, hr, hcell⟩ := hcc (i + j) p hj
  refine ⟨cs, hl, hr, fun q u hu => ?_⟩
  rw [add_add, show i * 3 + (j * 3 + q) = (i + j) * 3 + q by omega]
  exact hcell q u hu
theorem cut_runs (A : Option Addr) (n c k : Nat) (hk : k < n) (hn : n ≤ c) :
    (∀ W' : World, (Instr.slice 47 (.slice A n c) none (some (.int .i64 (k : Int))) none).run Try.prog W' = .ok (.slice A k c) W') ∧
      (∀ W' : World, (Instr.slice 47 (.slice A n c) (some (.int .i64 ((k : Int) + 1))) none none).run Try.prog W' = .ok (.slice (if c = k + 1 then A else A.map (·.add ((k + 1) * 3))) (n - (k + 1)) (c - (k + 1))) W') := by
  obtain ⟨i0, hi0, hzz⟩ := Option.map_eq_some_iff.1 info32
  simp only [Prod.mk.injEq] at hzz
  obtain ⟨hz0, hz1, hz2⟩ := hzz
  have hel : Try.prog.elem 47 = 32 := by simp [Program.elem, Try.underlying47]
  have hu : Try.prog.underlying 47 = some (.slice (Try.prog.elem 47)) := by rw [hel]; exact Try.underlying47
  have ha : (A.map fun x => x.add 0) = A := by cases A <;> simp [Addr.add]
  refine ⟨fun W' => ?_, fun W' => ?_⟩
  · rw [run_slice_h W' 47 A n c hu .i64 (k : Int) (by omega) (by omega), hel]
    simp [sizeOf, typeInfo, hi0, sliced, Result.andThen, ha]
  · rw [run_slice_l W' 47 A n c hu .i64 ((k : Int) + 1) (by omega) (by omega), hel, show ((k : Int) + 1).toNat = k + 1 by omega]
    simp [sizeOf, typeInfo, hi0, hz1, sliced, Result.andThen]
theorem Net.rows {t : Nat} {w : World} {base g : Nat} {ok : Nat → Prop} {v : Value} {xs : List S32} (h : Net t w base g ok v xs) : ∃ A c, v = .slice A xs.length c ∧ xs.length ≤ c ∧ ReadsRow (k32.M w base (fun k => ok k ∧ k < w.heap.size)) 3 w A xs.length xs := by
  obtain ⟨A, c, c0, rfl, hc, hle, hr⟩ := h.row
  obtain ⟨h0, ho⟩ := Kd.R_bound hr
  obtain ⟨A', c', he, _, hR⟩ := OwnRow.reads ho
  injection he with he1 he2 he3
  subst he1
  exact ⟨A, c, rfl, hle, hR.imp_ (Below.refl _ _) (fun p cs hp => k32.M_mono (fun k hk => ⟨hk.1.1, hk.1.2.2.1⟩) hp)⟩
section
variable {ops : Array Oper} {rest : List Oper} {o : Oper} {a : Act} {Q : Exit → Act → World → Prop}
/-- append(l, ys...): l a row that was made since w, ys a cut of a row of w's. -/
theorem ref_append {w W : World} {base : Nat} {okL okE : Nat → Prop} (hgd : o.guard = none) (s x : Operand) (ho : o.op = .call { callee := .builtin .append, args := #[s, x], argTypes := #[47, 47] })
    (l : Value) (ls ys : List S32) (A : Option Addr) (m c : Nat) (hs : a.eval s = l) (hx : a.eval x = .slice A m c) (HO : k32.R 32 W base okL l ls) (hln : ∃ b, l.ownBlock = some b ∧ w.heap.size ≤ b)
    (HR : ReadsRow (k32.M w base okE) 3 w A m ys) (hE : ∀ k, okE k → okL k ∧ k < w.heap.size) (hbw : Below w.heap.size w W) (hbase : base ≤ w.heap.size) (hfresh : ∀ k, W.heap.size ≤ k → okL k) (hl : ls.length + m ≤ 1000)
    (h : ∀ l1 w1, k32.R 32 w1 base okL l1 (ls ++ ys) → Below w.heap.size w w1 → W.grownBy w1 l.ownBlock → (∃ b, l1.ownBlock = some b ∧ w.heap.size ≤ b) → wpList Try.prog ops Q rest (a.put o.dst l1) w1) : wpList Try.prog ops Q (o :: rest) a W := by
  obtain ⟨b, hb, hbw'⟩ := hln
  refine Kd.R_append_rows k32 (w0 := W) base hgd s x 47 32 (.agg #[.int .i64 0, .int .i64 0, .slice none 0 0]) 40 ho Try.underlying47 info32 rfl (by decide) (by decide) l ls ys A m c okL okE hs hx HO (HR.imp_ hbw (fun _ _ hp => hp)) (fun y cs hy => Kd.M_below hy hbw) ?_ hfresh (Below.refl _ _) (Nat.le_trans hbase hbw.size) (by omega) ?_
  · intro k hk
    refine ⟨(hE k hk).1, fun he => ?_⟩
    rw [hb] at he
    injection he with he
    have := (hE k hk).2
    omega
  · intro l1 w1 hR hB hg hat
    refine h l1 w1 hR ?_ hg ?_
    · exact pw_below_grown hbw _ hbw.size hg (fun k hk => by rw [hb] at hk; injection hk with hk; omega)
    · rcases hat with hat | ⟨b1, hb1, hle⟩
      · exact ⟨b, hat.trans hb, hbw'⟩
      · exact ⟨b1, hb1, Nat.le_trans hbw.size hle⟩
end
theorem blk_okL {W w1 : World} {base : Nat} {okL : Nat → Prop} {l : Value} {ls : List S32} (hR : k32.R 32 W base okL l ls) (hg : W.grownBy w1 l.ownBlock) {k : Nat} {o : Obj} (hb : W.heap[k]? = some o) (hno : ¬ okL k) : w1.heap[k]? = some o :=
  blk_grown hb hg (fun he => hno (hR.1 k he.symm))
theorem R5_grown {W w1 : World} {base b : Nat} {okL okb : Nat → Prop} {l u : Value} {ls : List S32} {ys : List Int} (hR : k32.R 32 W base okL l ls) (hg : W.grownBy w1 l.ownBlock) (hu : (Kd.int .u8).R 5 W b okb u ys) : (Kd.int .u8).R 5 w1 b okb u ys := by
  refine Kd.R_mono (Kd.R_step (Kd.R_bound hu) (fun k hk1 hlt => hg.block k hlt ?_)) (fun k hk1 => hk1.1)
  intro he
  obtain ⟨_, _, _, q, hq, cells, hc⟩ := hk1
  have hq5 : q = 5 := by
    have : q ∈ [5] := hq
    simpa using this
  subst hq5
  obtain ⟨_, inner, ho, _⟩ := hR
  obtain ⟨cells', hc'⟩ := own_typed ho k he.symm
  rw [hc] at hc'
  injection hc' with hc'
  injection hc' with _ hc'
  cases hc'
theorem Net.post_new {t : Nat} {w w2 : World} {base g : Nat} {ok : Nat → Prop} {v v1 : Value} {xs ys : List S32} (h : Net t w base g ok v xs) (hbase : base ≤ w.heap.size) (hb1 : Below w.heap.size w w2) (hR : k32.R 32 w2 base ok v1 ys) (hat : ∃ b, v1.ownBlock = some b ∧ w.heap.size ≤ b) (hl : ys.length ≤ 256) (hp : ∀ x ∈ ys, x ∈ xs) :
    NPost t w (w2.setCell ⟨g, 0, none⟩ v1) base g ok v ys := by
  have hb2 := (h.below hb1).box
  refine ⟨v1, ⟨blk_put hb2 0 _ rfl, prow_of_R (Kd.R_set hR hb2 h.ty_ne 0 _), h.ge, h.ty, hl, fun x hx => h.small x (hp x hx)⟩, ?_, ?_, .inr hat⟩
  · exact (hb1.mono hbase).setCell h.ge _
  · exact ((Kept.refl w (Foot g v)).below hb1).setCell (.inl (.inl rfl)) _
end Go.Proofs.Ytgknafhpfghbjaa.X
