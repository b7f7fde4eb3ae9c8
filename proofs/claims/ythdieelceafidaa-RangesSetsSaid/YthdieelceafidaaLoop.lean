/- What ranges.Normal does: of the sorted ranges that are not empty, each is put onto the last one or behind it. -/
import Derived.Test.YthdieelceafidaaSrt
namespace Go.Proofs.Ythdieelceafidaa.X
open Go.RowKit Go.Shelf Go.Sort Go.Proofs.Ythdieelceafidaa.G Go.Proofs.YthdieelceafidaaW.PrintWords Go.Proofs.YthdieelceafidaaW.PrintLast Go.Proofs.YthdieelceafidaaW.PrintMore

attribute [local go_sem] max2_int min2_int max_two min_two
/-- One range more onto the list that has been made. -/
def onto (out : List S24) (r : S24) : List S24 :=
  match out.getLast? with
  | some l => if r.f0 ≤ l.f1 then out.dropLast ++ [⟨l.f0, max l.f1 r.f1⟩] else out ++ [r]
  | none => [r]
def made (ys : List S24) : List S24 := ys.foldl onto []
theorem onto_len (out : List S24) (r : S24) : (onto out r).length ≤ out.length + 1 := by
  unfold onto
  split
  · split
    · simp only [List.length_append, List.length_dropLast, List.length_cons, List.length_nil]; omega
    · simp
  · simp
theorem made_len (ys : List S24) (k : Nat) : (made (ys.take k)).length ≤ k := by
  have h : ∀ (l : List S24) (acc : List S24), (l.foldl onto acc).length ≤ acc.length + l.length := by
    intro l
    induction l with
    | nil => intro acc; simp
    | cons x l ih => intro acc; have h1 := ih (onto acc x); have h2 := onto_len acc x; simp only [List.foldl_cons, List.length_cons]; omega
  have h1 := h (ys.take k) []
  have h2 := List.length_take_le k ys
  unfold made
  simp only [List.length_nil] at h1
  omega
theorem deleteFunc_nil (w : World) : Calls Try.prog 22 #[.slice none 0 0, .func (.func 24) #[] #[]] w fun e w' => e = .returned (.slice none 0 0) ∧ Below w.heap.size w w' := by
  have eg : ∀ args w, (callFunc 24 args).run Try.prog w = .ok (.enter 24 args) w := enters_of Try.func24 (by kernel_rfl) rfl
  have hC : Kd.C k24 w none ([] : List S24).length [] := ⟨rfl, by simp, fun h => absurd h (by simp)⟩
  have HC := Aside0.mk (indexFunc_calls none 0 [] 24 #[] (fun x => decide (x.f1 ≤ x.f0)) w eg (fun _ => True) (fun _ _ => trivial) (fun x W _ => empty_calls x W) hC)
  clear eg hC
  go_enter Try.func22, Try.ntmps22
  go_wp2_with fail
  refine HC.out.mono ?_
  rintro e w1 ⟨rfl, hb1⟩
  go_wp2
  go_ret
  exact ⟨rfl, hb1⟩
set_option maxHeartbeats 1000000 in
theorem normal_nil (c : Nat) (w : World) : Calls Try.prog 8 #[.slice none 0 c] w fun e w' => e = .returned (.slice none 0 0) ∧ Below w.heap.size w w' := by
  go_enter Try.func8, Try.ntmps8
  go_wp2_with fail
  go_step3
  go_wp2_with fail
  refine (clone_nil _ _).mono ?_
  rintro e w1 ⟨rfl, hb1⟩
  go_wp2_with fail
  refine (deleteFunc_nil _).mono ?_
  rintro e w2 ⟨rfl, hb2⟩
  go_wp2_with fail
  refine (sortFunc_none _ _ _ _).mono ?_
  rintro e w3 ⟨rfl, hw3⟩
  go_wp2_with fail
  go_step3
  go_wp2_with fail
  refine wp_loop_rounds 1 ?_
  rw [rounds_succ]
  go_wp2
  rw [Exit.noGoto_ret]
  go_ret
  exact ⟨rfl, below_step hb1 hb2⟩
def full (xs : List S24) : List S24 := xs.filter fun x => !decide (x.f1 ≤ x.f0)
/-- The outer loop of Normal, at element k of the sorted row. -/
structure NormAt (ys : List S24) (gA cap : Nat) (w wr : World) (k : Nat) (v : Value) : Prop where
  row : Row wr gA cap ys
  out : Kd.R k24 24 wr w.heap.size (fun g => g ≠ gA) v (made (ys.take k))
  below : Below w.heap.size w wr
/-- Does r begin at or before the end of the last range of the list? -/
def Merges (out : List S24) (r : S24) : Prop := ∃ l, out.getLast? = some l ∧ r.f0 ≤ l.f1
instance (out : List S24) (r : S24) : Decidable (Merges out r) :=
  match h : out.getLast? with
  | some l => decidable_of_iff (r.f0 ≤ l.f1) ⟨fun h1 => ⟨l, h, h1⟩, fun ⟨l', h1, h2⟩ => by rw [h] at h1; exact (Option.some.inj h1) ▸ h2⟩
  | none => .isFalse fun ⟨l', h1, _⟩ => by rw [h] at h1; cases h1
theorem Merges.pos {out : List S24} {r : S24} (h : Merges out r) : 0 < out.length := by
  obtain ⟨l, h, _⟩ := h
  cases out with
  | nil => simp at h
  | cons a b => simp
theorem out_row {w wi : World} {gA : Nat} {v : Value} {os : List S24} (h : Kd.R k24 24 wi w.heap.size (fun g => g ≠ gA) v os) (hp : 0 < os.length) : ∃ g cap, v = .slice (some ⟨g, 0, none⟩) os.length cap ∧ w.heap.size ≤ g ∧ Row wi g cap os := by
  rcases row_of_R h with ⟨_, rfl⟩ | ⟨g, cap, e, hg, hr⟩
  · simp at hp
  · exact ⟨g, cap, e, hg, hr⟩
/-- In the inner loop: the outer loop's facts, and the boxed range. -/
structure InAt (ys : List S24) (gA cap : Nat) (w : World) (k : Nat) (v : Value) (x : S24) (gB : Nat) (wi : World) : Prop where
  norm : NormAt ys gA cap w wi k v
  box : wi.heap[gB]? = some (.cells #[.int .i64 x.f0, .int .i64 x.f1] 24 (0, 0))
  ge : w.heap.size ≤ gB
  ne : gB ≠ gA
  apart : ∀ g, v.ownBlock = some g → g ≠ gB
theorem NormAt.step {ys : List S24} {gA cap k : Nat} {w wr w1 : World} {v : Value} (h : NormAt ys gA cap w wr k v) (hb : Below wr.heap.size wr w1) : NormAt ys gA cap w w1 k v :=
  ⟨h.row.below hb, Kd.R_below h.out hb, below_step h.below hb⟩
theorem InAt.step {ys : List S24} {gA cap k gB : Nat} {w wr w1 : World} {v : Value} {x : S24} (h : InAt ys gA cap w k v x gB wr) (hb : Below wr.heap.size wr w1) : InAt ys gA cap w k v x gB w1 :=
  ⟨h.norm.step hb, (hb.block gB (Array.getElem?_eq_some_iff.1 h.box).1).trans h.box, h.ge, h.ne, h.apart⟩
theorem InAt.cells {ys : List S24} {gA cap k gB : Nat} {w wr : World} {v : Value} {x : S24} (h : InAt ys gA cap w k v x gB wr) : wr.cell? ⟨gB, 0, none⟩ = some (.int .i64 x.f0) ∧ wr.cell? ⟨gB, 1, none⟩ = some (.int .i64 x.f1) :=
  ⟨cell_of_row wr gB 0 _ _ _ h.box, cell_of_row wr gB 1 _ _ _ h.box⟩
theorem in_start {ys : List S24} {gA cap k : Nat} {w wr : World} {v : Value} {x : S24} (h : NormAt ys gA cap w wr k v) : InAt ys gA cap w k v x wr.heap.size (wr.alloc (.cells #[.int .i64 x.f0, .int .i64 x.f1] 24)) :=
  ⟨h.step (below_alloc (Below.refl _ _) _), heap_alloc_new wr _, h.below.size, fun e => by have := h.row.lt; omega, fun g hg e => by have := Kd.R_lt h.out g hg; omega⟩
theorem row_setTo {w : World} {g cap i : Nat} {xs : List S24} {l : S24} (h : Row w g cap xs) (hl : xs[i]? = some l) (v : Int) : Row (w.setCell ⟨g, i * 2 + 1, none⟩ (.int .i64 v)) g cap (xs.set i ⟨l.f0, v⟩) := by
  have h2 := h.set i ⟨l.f0, v⟩
  obtain ⟨cur, hb, h1, h2, h3, hc⟩ := h
  have hi : i < xs.length := (List.getElem?_eq_some_iff.1 hl).1
  refine ⟨cur.setIfInBounds (i * 2 + 1) (.int .i64 v), ?_, by rw [List.length_set]; exact h1, h2, by simpa using h3, fun k y hk => ?_⟩
  · rw [setCell_eq]
    simp [mapBlock, Array.getElem?_modify, hb, onCells]
  · by_cases e : i = k
    · subst e
      rw [List.getElem?_set_self hi] at hk
      obtain rfl := Option.some.inj hk
      constructor
      · rw [Array.getElem?_setIfInBounds_ne (by omega)]; exact (hc i l hl).1
      · rw [Array.getElem?_setIfInBounds_self_of_lt (by omega)]
    · rw [List.getElem?_set_ne e] at hk
      constructor
      · rw [Array.getElem?_setIfInBounds_ne (by omega)]; exact (hc k y hk).1
      · rw [Array.getElem?_setIfInBounds_ne (by omega)]; exact (hc k y hk).2
theorem made_next {ys : List S24} {k : Nat} {x : S24} (hx : ys[k]? = some x) : made (ys.take (k + 1)) = onto (made (ys.take k)) x := by
  rw [List.take_add_one, hx]
  simp [made]
theorem merge_made {ys : List S24} {k i gO ca gA gB : Nat} {x l : S24} {w wr : World} (hx : ys[k]? = some x)
    (HK : Row wr gO ca (made (ys.take k)) ∧ w.heap.size ≤ gO ∧ gO ≠ gA ∧ gO ≠ gB ∧ (made (ys.take k))[i]? = some l ∧ (made (ys.take k)).getLast? = some l ∧ i = (made (ys.take k)).length - 1) (hle : x.f0 ≤ l.f1) :
    (made (ys.take (k + 1)) = (made (ys.take k)).set i ⟨l.f0, if l.f1 < x.f1 then x.f1 else l.f1⟩ ∧ (made (ys.take (k + 1))).length = (made (ys.take k)).length) ∧ Row wr gO ca (made (ys.take k)) ∧ w.heap.size ≤ gO ∧ gO ≠ gA ∧ (made (ys.take k))[i]? = some l := by
  obtain ⟨h1, h2, h3, h4, h5, h6, h7⟩ := HK
  have hi : i < (made (ys.take k)).length := (List.getElem?_eq_some_iff.1 h5).1
  have e : made (ys.take (k + 1)) = (made (ys.take k)).set i ⟨l.f0, if l.f1 < x.f1 then x.f1 else l.f1⟩ := by
    rw [made_next hx]
    generalize made (ys.take k) = out at *
    have em : max l.f1 x.f1 = if l.f1 < x.f1 then x.f1 else l.f1 := by split <;> omega
    unfold onto
    rw [h6]
    show (if x.f0 ≤ l.f1 then _ else _) = _
    rw [if_pos hle, em]
    apply List.ext_getElem?
    intro j
    by_cases hj : j = i
    · subst hj
      rw [List.getElem?_set_self hi, List.getElem?_append_right (by simp; omega)]
      simp [h7]
    · rw [List.getElem?_set_ne (Ne.symm hj)]
      rcases Nat.lt_or_ge j i with h | h
      · rw [List.getElem?_append_left (by simp; omega), List.getElem?_dropLast, if_pos (by omega)]
      · rw [List.getElem?_eq_none (by simp; omega), List.getElem?_eq_none (by omega)]
  exact ⟨⟨e, by rw [e, List.length_set]⟩, h1, h2, h3, h5⟩
theorem apart_made {ys : List S24} {k : Nat} {x : S24} (hx : ys[k]? = some x) (hm : ¬ Merges (made (ys.take k)) x) : made (ys.take (k + 1)) = made (ys.take k) ++ [x] := by
  rw [made_next hx]
  generalize made (ys.take k) = out at *
  unfold onto
  split
  · rename_i l hl
    rw [if_neg (fun h => hm ⟨l, hl, h⟩)]
  · rename_i hl
    have : out = [] := by simpa using hl
    rw [this]; rfl
theorem push_step {ys : List S24} {k gA cap : Nat} {x : S24} {w wi W1 : World} {v v1 : Value} (h : NormAt ys gA cap w wi k v) (hx : ys[k]? = some x) (hm : ¬ Merges (made (ys.take k)) x)
    (ho : Kd.R k24 24 W1 w.heap.size (fun g => g ≠ gA) v1 (made (ys.take k) ++ [x])) (hb : Below w.heap.size w W1) (hg : wi.grownBy W1 v.ownBlock) : NormAt ys gA cap w W1 (k + 1) v1 ∧ ∃ A c, v1 = .slice A (made (ys.take (k + 1))).length c := by
  have e := apart_made hx hm
  refine ⟨⟨?_, by rw [e]; exact ho, hb⟩, ?_⟩
  · refine h.row.move (hg.block gA h.row.lt fun hh => ?_)
    exact h.out.1 gA hh.symm rfl
  · obtain ⟨A, c, hs⟩ := Kd.R_slice ho
    exact ⟨A, c, by rw [e]; exact hs⟩
theorem merge_step {ys : List S24} {k i gO ca gA cap n nq : Nat} {x l : S24} {w wr : World} (h : NormAt ys gA cap w wr k (.slice (some ⟨gO, 0, none⟩) n ca))
    (HK : (made (ys.take (k + 1)) = (made (ys.take k)).set i ⟨l.f0, if l.f1 < x.f1 then x.f1 else l.f1⟩ ∧ (made (ys.take (k + 1))).length = (made (ys.take k)).length) ∧ Row wr gO ca (made (ys.take k)) ∧ w.heap.size ≤ gO ∧ gO ≠ gA ∧ (made (ys.take k))[i]? = some l) :
    NormAt ys gA cap w ((wr.drewN nq).setCell ⟨gO, i * 2 + 1, none⟩ (.int .i64 (if l.f1 < x.f1 then x.f1 else l.f1))) (k + 1) (.slice (some ⟨gO, 0, none⟩) n ca) := by
  obtain ⟨⟨e1, e2⟩, h1, h2, h3, h4⟩ := HK
  have hn : n = (made (ys.take (k + 1))).length := by rw [e2]; exact (Kd.R_reads' h.out).1
  have hr := row_setTo (h1.below (pw_below_drewN (Below.refl _ _) nq)) h4 (if l.f1 < x.f1 then x.f1 else l.f1)
  refine ⟨?_, ?_, ?_⟩
  · refine (h.row.below (pw_below_drewN (Below.refl _ _) nq)).move ?_
    rw [setCell_eq]
    simp [mapBlock, Array.getElem?_modify, h3]
  · rw [hn, e1]
    have := R_of_row (ok := fun g => g ≠ gA) hr h2 h3
    rw [List.length_set] at this ⊢
    exact this
  · exact (pw_below_drewN h.below nq).setCell h2 _
set_option maxHeartbeats 2000000 in
set_option maxRecDepth 100000 in
theorem normal_some (ad : Addr) (c : Nat) (xs : List S24) (w : World) (hn : xs.length < 1000000) (hC : Kd.C k24 w (some ad) xs.length xs) :
    Calls Try.prog 8 #[.slice (some ad) xs.length c] w fun e w' => ∃ (v : Value) (ys : List S24), e = .returned v ∧ ys.Perm (full xs) ∧ ys.Pairwise (fun a b => a.f0 ≤ b.f0) ∧ Kd.R k24 24 w' w.heap.size (fun _ => True) v (made ys) ∧ Below w.heap.size w w' := by
  have eg : ∀ args w, (callFunc 24 args).run Try.prog w = .ok (.enter 24 args) w := enters_of Try.func24 (by kernel_rfl) rfl
  have HC := Aside0.mk hC
  have HEG := Aside0.mk eg
  have HN := Aside0.mk hn
  clear hC eg hn
  go_enter Try.func8, Try.ntmps8
  go_wp2_with fail
  go_step3
  go_wp2_with fail
  refine (clone_some ad c xs _ (by have := HN.out; omega) HC.out).mono ?_
  rintro e w1 ⟨v, rfl, hv, hb1⟩
  rcases row_of_R hv with ⟨rfl, hx⟩ | ⟨gA, cap, rfl, hgA, hrow⟩
  · have HX := Aside0.mk hx
    clear hx hv
    go_wp2_with fail
    refine (deleteFunc_nil _).mono ?_
    rintro e w2 ⟨rfl, hb2⟩
    go_wp2_with fail
    refine (sortFunc_none _ _ _ _).mono ?_
    rintro e w3 ⟨rfl, hw3⟩
    go_wp2_with fail
    go_step3
    go_wp2_with fail
    refine wp_loop_rounds 1 ?_
    rw [rounds_succ]
    go_wp2
    rw [Exit.noGoto_ret]
    go_ret
    refine ⟨_, [], rfl, by rw [HX.out]; exact List.Perm.refl _, List.Pairwise.nil, Kd.R_nil _ _ _ _ _, below_step hb1 hb2⟩
  · have HROW := Aside0.mk hrow
    clear hrow hv
    go_wp2_with fail
    refine (deleteFunc_calls gA cap xs 24 #[] (fun x => decide (x.f1 ≤ x.f0)) _ HEG.out (fun x W _ => empty_calls x W) HROW.out).mono ?_
    rintro e w2 ⟨rfl, hr2, hg2⟩
    have HR2 := Aside0.mk hr2
    have HG2 := Aside0.mk hg2
    clear hr2 hg2
    go_wp2_with fail
    refine (sortFunc_calls gA cap (full xs) _ HR2.out ?hcap).mono ?_
    case hcap => have := HN.out; have h2 := List.length_filter_le (fun x : S24 => !decide (x.f1 ≤ x.f0)) xs; unfold full; omega
    rintro e w3 ⟨rfl, ys, hlen, hperm, hsort, hr3, hg3⟩
    have D := Aside0.mk (show NormAt ys gA cap w w3 0 (.slice none 0 0) from ⟨hr3, Kd.R_nil _ _ _ _ _, (hb1.grown HG2.out hb1.size (fun k hk => by simp only [Option.some.injEq] at hk; omega)).grown hg3 (Nat.le_trans hb1.size HG2.out.size) (fun k hk => by simp only [Option.some.injEq] at hk; omega)⟩)
    have HY := Aside0.mk (show ys.length < 1000000 ∧ ys.Perm (full xs) ∧ ys.Pairwise (fun a b => a.f0 ≤ b.f0) from ⟨by have := HN.out; have h2 := List.length_filter_le (fun x : S24 => !decide (x.f1 ≤ x.f0)) xs; unfold full at hlen; omega, hperm, hsort⟩)
    have hl : (List.filter (fun x => !decide (x.f1 ≤ x.f0)) xs).length = ys.length := hlen.symm
    rw [hl]
    clear hlen hperm hsort hr3 hg3 hl
    go_wp2_with fail
    go_step3
    go_wp2_with fail
    go_loopw [4, 15] (fun v4 v15 wr => ∃ (k : Nat) (A : Option Addr) (ca : Nat), v15 = .int .i64 k ∧ v4 = .slice A (made (ys.take k)).length ca ∧ k ≤ ys.length ∧ Aside0 (NormAt ys gA cap w wr k v4)) (fun _ v15 _ => ys.length - (intOf v15).toNat)
    case atStart => exact ⟨0, none, 0, rfl, rfl, Nat.zero_le _, D⟩
    case round =>
      obtain ⟨k, A, ca, rfl, rfl, hk, HD⟩ := hrel
      have hY := HY.out.1
      by_cases hlt : k < ys.length
      · have t1 : decide ((k : Int) < (ys.length : Int)) = true := decide_eq_true (by omega)
        have t2 : decide (k < ys.length) = true := decide_eq_true hlt
        obtain ⟨c0, c1⟩ := HD.out.row.cell (List.getElem?_eq_getElem hlt)
        have HX := Aside0.mk (List.getElem?_eq_getElem hlt)
        generalize ys[k] = x at c0 c1 HX
        obtain ⟨n, hnn⟩ : ∃ n, n = (made (ys.take k)).length := ⟨_, rfl⟩
        have HNN := Aside0.mk hnn
        have hnb : n ≤ k := by rw [hnn]; exact made_len ys k
        rw [← hnn]
        clear hnn
        have HD2 := Aside0.mk (show NormAt ys gA cap w wr k (.slice A n ca) by rw [HNN.out]; exact HD.out)
        clear HD
        have HD := HD2
        clear HD2
        have E0 := Aside0.mk (show InAt ys gA cap w k (.slice A n ca) x wr.heap.size (wr.alloc (.cells #[.int .i64 x.f0, .int .i64 x.f1] 24)) from in_start HD.out)
        have hlg := HD.out.row.lt
        generalize hgB : wr.heap.size = gB at E0
        go_wp2_with fail
        clear hgB
        generalize wr.alloc (.cells #[.int .i64 x.f0, .int .i64 x.f1] 24) = wb at E0
        clear c0 c1 HD hlg
        rcases Decidable.em (Merges (made (ys.take k)) x) with hm | hm
        · have HM := Aside0.mk hm
          have hn0 := hm.pos
          rw [← HNN.out] at hn0
          clear hm
          go_loopw [21] (fun v21 wi => ∃ i : Nat, v21 = .int .i64 i ∧ i < n ∧ Aside0 (InAt ys gA cap w k (.slice A n ca) x gB wi)) (fun v21 _ => n - (intOf v21).toNat)
          case atStart => exact ⟨0, rfl, hn0, E0⟩
          case round =>
            obtain ⟨i, rfl, hi, HI⟩ := hrel
            have t3 : decide ((i : Int) < (n : Int)) = true := decide_eq_true (by omega)
            have t4 : decide (i < n) = true := decide_eq_true hi
            obtain ⟨b0, b1⟩ := HI.out.cells
            by_cases he : i = n - 1
            · have t5 : ((i : Int) == (n : Int) - 1) = true := beq_iff_eq.2 (by omega)
              obtain ⟨l, hgl, hle⟩ := HM.out
              obtain ⟨gO, capO, hs, hgO, hrowO⟩ := out_row HI.out.norm.out (by rw [← HNN.out]; omega)
              simp only [Value.slice.injEq] at hs
              obtain ⟨rfl, hq, rfl⟩ := hs
              clear hq
              have hlast : (made (ys.take k))[i]? = some l := by rw [he, HNN.out]; exact (List.getLast?_eq_getElem? (l := made (ys.take k))).symm.trans hgl
              obtain ⟨d0, d1⟩ := hrowO.cell hlast
              have f1 := hrowO.free (i * 2 + 1)
              have t6 : decide (x.f0 ≤ l.f1) = true := decide_eq_true hle
              have HK := Aside0.mk (show Row wr gO ca (made (ys.take k)) ∧ w.heap.size ≤ gO ∧ gO ≠ gA ∧ gO ≠ gB ∧ (made (ys.take k))[i]? = some l ∧ (made (ys.take k)).getLast? = some l ∧ i = (made (ys.take k)).length - 1 from ⟨hrowO, hgO, HI.out.norm.out.1 gO rfl, HI.out.apart gO rfl, hlast, hgl, by rw [← HNN.out]; exact he⟩)
              have HLE := Aside0.mk hle
              have HMK := Aside0.mk (merge_made HX.out HK.out hle)
              clear hgl hlast hrowO he hle
              go_wp2_with fail
              go_quiet (fail)
              go_wp2_with fail
              go_region
              go_wp2_with fail
              go_roundw
              case rel => exact ⟨k + 1, some ⟨gO, 0, none⟩, ca, by go_num, by rw [HMK.out.1.2, ← HNN.out], by omega, ⟨merge_step HI.out.norm HMK.out⟩⟩
              case measure => simp [intOf]; omega
            · have t5 : ((i : Int) == (n : Int) - 1) = false := beq_eq_false_iff_ne.2 (by omega)
              go_wp2_with fail
              go_quiet (fail)
              go_wp2_with fail
              go_roundw
              case rel => exact ⟨i + 1, by go_num, by omega, ⟨HI.out.step (pw_below_drewN (Below.refl _ _) nq)⟩⟩
              case measure => simp [intOf]; omega
        · have HM := Aside0.mk hm
          clear hm
          go_loopw [21] (fun v21 wi => ∃ i : Nat, v21 = .int .i64 i ∧ i ≤ n ∧ Aside0 (InAt ys gA cap w k (.slice A n ca) x gB wi)) (fun v21 _ => n - (intOf v21).toNat)
          case atStart => exact ⟨0, rfl, Nat.zero_le _, E0⟩
          case round =>
            obtain ⟨i, rfl, hi, HI⟩ := hrel
            obtain ⟨b0, b1⟩ := HI.out.cells
            by_cases hi2 : i < n
            · have t3 : decide ((i : Int) < (n : Int)) = true := decide_eq_true (by omega)
              have t4 : decide (i < n) = true := decide_eq_true hi2
              by_cases he : i = n - 1
              · have t5 : ((i : Int) == (n : Int) - 1) = true := beq_iff_eq.2 (by omega)
                obtain ⟨gO, capO, hs, hgO, hrowO⟩ := out_row HI.out.norm.out (by rw [← HNN.out]; omega)
                simp only [Value.slice.injEq] at hs
                obtain ⟨rfl, hq, rfl⟩ := hs
                clear hq
                obtain ⟨l, hgl⟩ : ∃ l, (made (ys.take k)).getLast? = some l := by
                  cases hl : (made (ys.take k)).getLast? with
                  | some l => exact ⟨l, rfl⟩
                  | none => have := HNN.out; rw [List.getLast?_eq_none_iff.1 hl] at this; simp at this; omega
                have hle : ¬ x.f0 ≤ l.f1 := fun h => HM.out ⟨l, hgl, h⟩
                have hlast : (made (ys.take k))[i]? = some l := by rw [he, HNN.out]; exact (List.getLast?_eq_getElem? (l := made (ys.take k))).symm.trans hgl
                obtain ⟨d0, d1⟩ := hrowO.cell hlast
                have t6 : decide (x.f0 ≤ l.f1) = false := decide_eq_false hle
                clear hgl hlast hrowO hle he
                go_wp2_with fail
                go_quiet (fail)
                go_wp2_with fail
                go_roundw
                case rel => exact ⟨i + 1, by go_num, by omega, ⟨HI.out.step (pw_below_drewN (Below.refl _ _) nq)⟩⟩
                case measure => simp [intOf]; omega
              · have t5 : ((i : Int) == (n : Int) - 1) = false := beq_eq_false_iff_ne.2 (by omega)
                go_wp2_with fail
                go_quiet (fail)
                go_wp2_with fail
                go_roundw
                case rel => exact ⟨i + 1, by go_num, by omega, ⟨HI.out.step (pw_below_drewN (Below.refl _ _) nq)⟩⟩
                case measure => simp [intOf]; omega
            · have t3 : decide ((i : Int) < (n : Int)) = false := decide_eq_false (by omega)
              have t4 : decide (i < n) = false := decide_eq_false hi2
              have HO := Aside0.mk (show Kd.R k24 24 wr w.heap.size (fun g => g ≠ gA) (.slice A n ca) (made (ys.take k)) from HI.out.norm.out)
              have HL := Aside0.mk (show ((made (ys.take k)).length + 1) * 16 ≤ 140737488355328 by have := HNN.out; omega)
              have HF := Aside0.mk (show ∀ g, wr.heap.size ≤ g → g ≠ gA from fun g hg e => by have := HI.out.norm.row.lt; omega)
              go_wp2_with (at_builtin; go_loud (refine Kd.R_append k24 (w0 := w) w.heap.size rfl (.tmp 52) (.tmp 54) 22 24 (.agg #[.int .i64 0, .int .i64 0]) 16 rfl Try.underlying22 info24 rfl (by decide) (by omega) (.slice A n ca) (made (ys.take k)) x [.int .i64 x.f0, .int .i64 x.f1] (fun g => g ≠ gA) (fun _ => False) rfl rfl (k24_mkM _ _ _ x) (fun _ hk => hk.elim) HF.out HO.out HI.out.norm.below HI.out.norm.below.size HL.out ?_); intro v1 w1 ho1 hb1 hg1 hat1; have HP := Aside0.mk (push_step HI.out.norm HX.out HM.out ho1 hb1 hg1); clear ho1 hb1 hg1 hat1)
              obtain ⟨A1, c1, hv1⟩ := HP.out.2
              subst hv1
              go_roundw
              case rel => exact ⟨k + 1, A1, c1, by go_num, rfl, by omega, ⟨HP.out.1⟩⟩
              case measure => simp [intOf]; omega
      · have t1 : decide ((k : Int) < (ys.length : Int)) = false := decide_eq_false (by omega)
        have t2 : decide (k < ys.length) = false := decide_eq_false hlt
        have HE := Aside0.mk (show ys.take k = ys from List.take_of_length_le (by omega))
        go_wp2_with fail
        rw [Exit.noGoto_ret]
        go_ret
        exact ⟨_, ys, rfl, HY.out.2.1, HY.out.2.2, Kd.R_mono (by have := HD.out.out; rw [HE.out] at this; rw [HE.out]; exact this) (fun _ _ => trivial), HD.out.below⟩
end Go.Proofs.Ythdieelceafidaa.X
