/- ranges.Has and ranges.Covers of any ranges: the contracts, in the print's form. -/
import Derived.Test.YthdieelceafidaaNormal
namespace Go.Proofs.Ythdieelceafidaa.X
open Go.RowKit Go.Proofs.Ythdieelceafidaa.G Go.Proofs.YthdieelceafidaaW.PrintWords Go.Proofs.YthdieelceafidaaW.PrintLast Go.Proofs.YthdieelceafidaaW.PrintMore

theorem idx_any (p : S24 → Bool) (xs : List S24) : -1 ≤ idx p xs ∧ (decide (0 ≤ idx p xs) = xs.any p) := by
  induction xs with
  | nil => simp [idx]
  | cons x xs ih =>
    obtain ⟨h1, h2⟩ := ih
    by_cases hp : p x = true
    · simp [idx, hp]
    · have hp' : p x = false := by simpa using hp
      simp only [idx, hp', List.any_cons, Bool.false_or, Bool.false_eq_true, if_false]
      rw [← h2]
      split
      · rename_i e; rw [e]; simp
      · refine ⟨by omega, ?_⟩
        rw [decide_eq_decide]; omega
set_option maxHeartbeats 1000000 in
theorem containsFunc_calls (A : Option Addr) (c : Nat) (xs : List S24) (g : Nat) (cb : Array Value) (p : S24 → Bool) (w : World) (eg : ∀ args w, (callFunc g args).run Try.prog w = .ok (.enter g args) w) (I : World → Prop) (hI : ∀ W, Below w.heap.size w W → I W) (hp : Pays g cb p I) (hC : Kd.C k24 w A xs.length xs) :
    Calls Try.prog 30 #[.slice A xs.length c, .func (.func g) #[] cb] w fun e w' => e = .returned (.bool (xs.any p)) ∧ Below w.heap.size w w' := by
  have HC := Aside0.mk (indexFunc_calls A c xs g cb p w eg I hI hp hC)
  have hx := idx_any p xs
  generalize xs.any p = b at hx ⊢
  obtain ⟨h1, h2⟩ := hx
  generalize idx p xs = i at HC h1 h2
  clear hp hC hI eg
  subst h2
  go_enter Try.func30, Try.ntmps30
  go_wp2_with fail
  refine HC.out.mono ?_
  rintro e w1 ⟨rfl, hb1⟩
  go_wp2
  go_ret
  exact ⟨rfl, hb1⟩
def within (t : Int) (x : S24) : Bool := decide (x.f0 ≤ t) && decide (t < x.f1)
set_option maxHeartbeats 1000000 in
theorem within_calls (t : Int) (gt : Nat) : Pays 31 #[.pointer (some ⟨gt, 0, none⟩)] (within t) (fun W => W.cell? ⟨gt, 0, none⟩ = some (.int .i64 t)) := by
  intro x W hc
  have HI := hc
  show Calls Try.prog 31 #[.agg #[.int .i64 x.f0, .int .i64 x.f1], .pointer (some ⟨gt, 0, none⟩)] W _
  have hlt : gt < W.heap.size := World.block_lt_of_cell? _ _ hc
  have hc2 : ∀ o, (W.alloc o).cell? ⟨gt, 0, none⟩ = some (.int .i64 t) := fun o => by rw [World.cell?_alloc_lt _ _ _ hlt]; exact hc
  by_cases h1 : x.f0 ≤ t
  · by_cases h2 : t < x.f1
    · have e : within t x = true := by simp [within, h1, h2]
      rw [e]
      have t1 : decide (x.f0 ≤ t) = true := decide_eq_true h1
      have t2 : decide (t < x.f1) = true := decide_eq_true h2
      clear e HI
      go_enter Try.func31, Try.ntmps31
      go_wp2
      repeat (go_quiet (fail); try go_wp2)
      go_ret
      exact ⟨rfl, by repeat (first | apply below_alloc | apply pw_below_drewN | apply below_drew1 | exact Below.refl _ _)⟩
    · have e : within t x = false := by simp [within, h2]
      rw [e]
      have t1 : decide (x.f0 ≤ t) = true := decide_eq_true h1
      have t2 : decide (t < x.f1) = false := decide_eq_false h2
      clear e HI
      go_enter Try.func31, Try.ntmps31
      go_wp2
      repeat (go_quiet (fail); try go_wp2)
      go_ret
      exact ⟨rfl, by repeat (first | apply below_alloc | apply pw_below_drewN | apply below_drew1 | exact Below.refl _ _)⟩
  · have e : within t x = false := by simp [within, h1]
    rw [e]
    have t1 : decide (x.f0 ≤ t) = false := decide_eq_false h1
    clear e HI
    go_enter Try.func31, Try.ntmps31
    go_wp2
    repeat (go_quiet (fail); try go_wp2)
    go_ret
    exact ⟨rfl, by repeat (first | apply below_alloc | apply pw_below_drewN | apply below_drew1 | exact Below.refl _ _)⟩
def ranges_Has.f (l0 : List S24) (a1 : Int) : Option Bool := some (l0.any (within a1))
set_option maxHeartbeats 1000000 in
theorem ranges_Has.calls (A0 : Option Addr) (c0 : Nat) (l0 : List S24) (a1 : Int) (r : Bool) (w : World) (hr0 : Kd.C k24 w A0 l0.length l0) (_hc0 : l0.length ≤ c0) (h : ranges_Has.f l0 a1 = some r) :
    Calls Try.prog 12 #[.slice A0 l0.length c0, .int .i64 a1] w fun e w' => e = .returned (.bool r) ∧ Below w.heap.size w w' := by
  obtain rfl := Option.some.inj h
  have eg : ∀ args w, (callFunc 31 args).run Try.prog w = .ok (.enter 31 args) w := enters_of Try.func31 (by kernel_rfl) rfl
  have HB0 := Aside0.mk (below_alloc (Below.refl w.heap.size w) (.cells #[.int .i64 a1] 3))
  have HK := Aside0.mk (containsFunc_calls A0 c0 l0 31 #[.pointer (some ⟨w.heap.size, 0, none⟩)] (within a1) (w.alloc (.cells #[.int .i64 a1] 3)) eg _ (fun W hW => (hW.cell (p := ⟨w.heap.size, 0, none⟩) (by simp)).trans (cell_of_row _ _ _ _ _ _ (heap_alloc_new w _))) (within_calls a1 w.heap.size) (Kd.C_below hr0 HB0.out))
  clear hr0 h eg
  generalize l0.any (within a1) = b at HK ⊢
  go_enter Try.func12, Try.ntmps12
  go_wp2_with fail
  refine HK.out.mono ?_
  rintro e w1 ⟨rfl, hb1⟩
  go_wp2
  go_ret
  exact ⟨rfl, below_step HB0.out hb1⟩
def spans (a b : Int) (x : S24) : Bool := decide (x.f0 ≤ a) && decide (b ≤ x.f1)
set_option maxHeartbeats 1000000 in
theorem spans_calls (a b : Int) (gt : Nat) : Pays 32 #[.pointer (some ⟨gt, 0, none⟩)] (spans a b) (fun W => W.cell? ⟨gt, 0, none⟩ = some (.int .i64 a) ∧ W.cell? ⟨gt, 1, none⟩ = some (.int .i64 b)) := by
  intro x W hc
  show Calls Try.prog 32 #[.agg #[.int .i64 x.f0, .int .i64 x.f1], .pointer (some ⟨gt, 0, none⟩)] W _
  obtain ⟨hca, hcb⟩ := hc
  have hlt : gt < W.heap.size := World.block_lt_of_cell? _ _ hca
  have hca2 : ∀ o, (W.alloc o).cell? ⟨gt, 0, none⟩ = some (.int .i64 a) := fun o => by rw [World.cell?_alloc_lt _ _ _ hlt]; exact hca
  have hcb2 : ∀ o, (W.alloc o).cell? ⟨gt, 1, none⟩ = some (.int .i64 b) := fun o => by rw [World.cell?_alloc_lt _ _ _ hlt]; exact hcb
  by_cases h1 : x.f0 ≤ a
  · by_cases h2 : b ≤ x.f1
    · have e : spans a b x = true := by simp [spans, h1, h2]
      rw [e]
      have t1 : decide (x.f0 ≤ a) = true := decide_eq_true h1
      have t2 : decide (b ≤ x.f1) = true := decide_eq_true h2
      clear e
      go_enter Try.func32, Try.ntmps32
      go_wp2
      repeat (go_quiet (fail); try go_wp2)
      go_ret
      exact ⟨rfl, by repeat (first | apply below_alloc | apply pw_below_drewN | apply below_drew1 | exact Below.refl _ _)⟩
    · have e : spans a b x = false := by simp [spans, h2]
      rw [e]
      have t1 : decide (x.f0 ≤ a) = true := decide_eq_true h1
      have t2 : decide (b ≤ x.f1) = false := decide_eq_false h2
      clear e
      go_enter Try.func32, Try.ntmps32
      go_wp2
      repeat (go_quiet (fail); try go_wp2)
      go_ret
      exact ⟨rfl, by repeat (first | apply below_alloc | apply pw_below_drewN | apply below_drew1 | exact Below.refl _ _)⟩
  · have e : spans a b x = false := by simp [spans, h1]
    rw [e]
    have t1 : decide (x.f0 ≤ a) = false := decide_eq_false h1
    clear e
    go_enter Try.func32, Try.ntmps32
    go_wp2
    repeat (go_quiet (fail); try go_wp2)
    go_ret
    exact ⟨rfl, by repeat (first | apply below_alloc | apply pw_below_drewN | apply below_drew1 | exact Below.refl _ _)⟩
def ranges_Covers.f (l0 : List S24) (a1_0 a1_1 : Int) : Option Bool := if a1_1 ≤ a1_0 then some true else (ranges_Normal.f l0).bind fun n => some (n.any (spans a1_0 a1_1))
set_option maxHeartbeats 1000000 in
theorem ranges_Covers.calls (A0 : Option Addr) (c0 : Nat) (l0 : List S24) (a1_0 : Int) (a1_1 : Int) (r : Bool) (w : World) (hr0 : Kd.C k24 w A0 l0.length l0) (hc0 : l0.length ≤ c0) (h : ranges_Covers.f l0 a1_0 a1_1 = some r) :
    Calls Try.prog 17 #[.slice A0 l0.length c0, .agg #[.int .i64 a1_0, .int .i64 a1_1]] w fun e w' => e = .returned (.bool r) ∧ Below w.heap.size w w' := by
  unfold ranges_Covers.f at h
  by_cases he : a1_1 ≤ a1_0
  · rw [if_pos he] at h
    obtain rfl := Option.some.inj h
    have t1 : decide (a1_1 ≤ a1_0) = true := decide_eq_true he
    clear hr0 hc0 h
    go_enter Try.func17, Try.ntmps17
    go_wp2
    repeat (go_quiet (fail); try go_wp2)
    go_ret
    exact ⟨rfl, by repeat (first | apply below_alloc | apply pw_below_drewN | apply below_drew1 | exact Below.refl _ _)⟩
  · rw [if_neg he] at h
    obtain ⟨n, hn, h⟩ := Option.bind_eq_some_iff.1 h
    obtain rfl := Option.some.inj h
    have t1 : decide (a1_1 ≤ a1_0) = false := decide_eq_false he
    have HB0 := Aside0.mk (below_alloc (Below.refl w.heap.size w) (.cells #[.int .i64 a1_0, .int .i64 a1_1] 24))
    have HN := Aside0.mk hn
    have HR := Aside0.mk hr0
    have HC := Aside0.mk hc0
    have eg : ∀ args w, (callFunc 32 args).run Try.prog w = .ok (.enter 32 args) w := enters_of Try.func32 (by kernel_rfl) rfl
    have HEG := Aside0.mk eg
    clear hr0 hc0 h hn eg
    generalize hbn : n.any (spans a1_0 a1_1) = b
    have HBN := Aside0.mk hbn
    clear hbn
    go_enter Try.func17, Try.ntmps17
    go_wp2_with fail
    refine (ranges_Normal.calls _ _ l0 n _ (Kd.C_below HR.out HB0.out) HC.out HN.out).mono ?_
    rintro e w1 ⟨v, rfl, hv, hb1⟩
    obtain ⟨A1, c1, rfl, _, hC1⟩ := Kd.R_reads hv
    have HK := Aside0.mk (containsFunc_calls A1 c1 n 32 #[.pointer (some ⟨w.heap.size, 0, none⟩)] (spans a1_0 a1_1) w1 HEG.out _ (fun W hW => new_cells (below_step hb1 hW)) (spans_calls a1_0 a1_1 w.heap.size) hC1)
    clear hv hC1
    rw [HBN.out] at HK
    go_wp2_with fail
    refine HK.out.mono ?_
    rintro e w2 ⟨rfl, hb2⟩
    go_wp2
    go_ret
    exact ⟨rfl, below_step (below_step HB0.out hb1) hb2⟩
end Go.Proofs.Ythdieelceafidaa.X
