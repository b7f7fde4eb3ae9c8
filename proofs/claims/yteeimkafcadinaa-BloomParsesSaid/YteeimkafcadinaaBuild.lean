/- The program's Build: a range over the iterator of the places inside the loop over the names. -/
import Derived.RangeFuncFrom
import Derived.Test.YteeimkafcadinaaIter
import Derived.Test.YteeimkafcadinaaRBuild
namespace Go.Proofs.Yteeimkafcadinaa.X
open Go.RowKit Go.Shelf Go.Sort Go.Proofs.Yteeimkafcadinaa.B Go.Proofs.Yteeimkafcadinaa Go.Proofs.YteeimkafcadinaaW.PrintWords Go.Proofs.YteeimkafcadinaaW.PrintLast Go.Proofs.YteeimkafcadinaaW.PrintMore
attribute [local go_sem] Oper.semAt_some

/-- The marks among the deferred calls: their blocks lie between B and U, each below the one before it. -/
def Marks (B : Nat) : Nat → World → List Deferred → Prop
  | _, _, [] => True
  | U, W, d :: ds => ∃ D, d = { target := .collected D, args := #[] } ∧ B ≤ D ∧ D < U ∧ W.heap[D]? = some (.deferred (some [])) ∧ Marks B D W ds
theorem Marks.mono {B U U' : Nat} {W : World} {ds : List Deferred} (h : Marks B U W ds) (hu : U ≤ U') : Marks B U' W ds := by
  cases ds with
  | nil => trivial
  | cons d ds =>
    obtain ⟨D, e, h1, h2, h3, h4⟩ := h
    exact ⟨D, e, h1, by omega, h3, h4⟩
theorem Marks.move {B : Nat} {W W' : World} : ∀ {ds : List Deferred} {U : Nat}, Marks B U W ds → (∀ D, D < U → W.heap[D]? = some (.deferred (some [])) → W'.heap[D]? = W.heap[D]?) → Marks B U W' ds
  | [], _, _, _ => trivial
  | d :: ds, U, h, hk => by
    obtain ⟨D, e, h1, h2, h3, h4⟩ := h
    exact ⟨D, e, h1, h2, (hk D h2 h3).trans h3, h4.move fun D' hD hd => hk D' (by omega) hd⟩
/-- What is left behind when the marks are taken up. -/
def Taken (B : Nat) (W W' : World) : Prop := Below B W W' ∧ ∀ (k : Nat) (cs : Array Value) (t : TypeId) (fz : Nat × Nat), W.heap[k]? = some (.cells cs t fz) → W'.heap[k]? = W.heap[k]?
theorem leaves_marks {fn : Func} {tmps : Array Value} {R : Ending → World → Prop} {B : Nat} : ∀ (ds : List Deferred) (U : Nat) (W : World), B ≤ W.heap.size → Marks B U W ds →
    (∀ W', Taken B W W' → LeavesInM Fence.wide 4 Try.prog fn tmps R [] .returning W') → LeavesInM Fence.wide 4 Try.prog fn tmps R ds .returning W
  | [], U, W, _, _, h => h W ⟨Below.refl _ _, fun _ _ _ _ _ => rfl⟩
  | d :: ds, U, W, hB, hm, h => by
    obtain ⟨D, rfl, h1, h2, h3, h4⟩ := hm
    refine ⟨by simp, .inl ⟨_, _, rfl, run_takeDeferred h3, ?_⟩⟩
    refine leaves_marks ds D _ (by simpa using hB) (h4.move fun D' hD hd => World.putObj_heap_other (by omega)) fun W' hW' => h W' ⟨?_, ?_⟩
    · refine Below.trans ?_ hW'.1
      exact (Below.refl B W).grown (grownBy_putObj' W D (.deferred none)) hB (fun k e => by cases e; exact h1)
    · intro k cs t fz hk
      have hne : k ≠ D := fun e => by subst e; rw [h3] at hk; cases hk
      have e1 : (W.putObj D (.deferred none)).heap[k]? = W.heap[k]? := World.putObj_heap_other (by omega)
      exact (hW'.2 k cs t fz (e1.trans hk)).trans e1
theorem foldl_pls {s : ByteArray} {bs : List Int} {N : Nat} (hN : bs.length = N) (k : Nat) : (pls s (8 * (N : Int)) k).foldl putB bs = (List.range k).foldl (putK s) bs := by
  induction k with
  | zero => rfl
  | succ k ih =>
    have hl : ((List.range k).foldl (putK s) bs).length = N := by
      clear ih
      induction k with
      | zero => exact hN
      | succ k ih => rw [List.range_succ, List.foldl_append]; exact (putK_len s _ k).trans ih
    rw [pls_succ, List.range_succ, List.foldl_append, List.foldl_append, ih]
    generalize (List.range k).foldl (putK s) bs = b at hl ⊢
    show X.putB b _ = X.putB b (pl s (k : Int) (8 * (b.length : Int)))
    rw [hl]
/-- One bit more. -/
theorem BAt.putB {t : Nat} {w wr : World} {g gB c N j m : Nat} {bs : List Int} {p x : Int} (h : BAt t w g gB c N bs wr) (e : p = 8 * (j : Int) + (m : Int)) (hm : m < 8) (hx : bs[j]? = some x) :
    BAt t w g gB c N (putB bs p) (wr.setCell ⟨gB, j, none⟩ (.int .u8 (bits .or .u8 x (2 ^ m % 256)))) := by
  have ej : (p / 8).toNat = j := by omega
  have em : (p % 8).toNat = m := by omega
  have ex : byteAt bs p = x := byteAt_of (by rw [ej]; exact hx)
  have eo : X.putB bs p = bs.set j (bits .or .u8 x (2 ^ m % 256)) := by
    unfold X.putB orb
    rw [ej, em, ex]
  have hr := orb_range (h.flt.bytes x (List.mem_of_getElem? hx)) p
  unfold orb at hr
  rw [em] at hr
  refine ⟨?_, by rw [putB_len]; exact h.len, h.below.setCell (p := ⟨gB, j, none⟩) h.g1 _, h.g0, h.g1⟩
  rw [eo]
  exact h.flt.set j _ hr
/-- Build, between two rounds of the loop over the places. -/
structure RB (w : World) (U g gB c N : Nat) (ds : List Deferred) (bs : List Int) (W : World) : Prop where
  at_ : BAt 42 w g gB c N bs W
  box : W.heap[g + 1]? = some (.cells #[.pointer (some ⟨g, 0, none⟩)] 24 (0, 0))
  marks : Marks w.heap.size U W ds
theorem RB.move {w : World} {U g gB c N : Nat} {ds : List Deferred} {bs : List Int} {W W' : World} (h : RB w U g gB c N ds bs W) (hg : g + 1 < U) (hgB : gB < U) (hm : ∀ k, k < U → k < W.heap.size → W'.heap[k]? = W.heap[k]?) (hb : Below w.heap.size w W') : RB w U g gB c N ds bs W' :=
  ⟨⟨h.at_.flt.move (hm g (by omega) h.at_.flt.lt.1) (hm gB hgB h.at_.flt.lt.2), h.at_.len, hb, h.at_.g0, h.at_.g1⟩, (hm _ hg (Array.getElem?_eq_some_iff.1 h.box).1).trans h.box, h.marks.move fun D hD hd => hm D hD (Array.getElem?_eq_some_iff.1 hd).1⟩
theorem RB.own {w : World} {U g gB c N : Nat} {ds : List Deferred} {bs : List Int} {W W' : World} {row : Option Nat} (h : RB w U g gB c N ds bs W) (hg : g + 1 < U) (hgB : gB < U) (hU : w.heap.size ≤ U) (hgr : W.grownBy W' row) (hr : ∀ r, row = some r → U ≤ r) : RB w U g gB c N ds bs W' := by
  refine h.move hg hgB ?_ (h.at_.below.grown hgr h.at_.below.size fun k e => by have := hr k e; omega)
  obtain ⟨_, _, _, _, hk⟩ := hgr
  exact fun k hk1 hk2 => hk k hk2 fun e => by have := hr k e.symm; omega
theorem RB.put {w : World} {U g gB c N j m : Nat} {ds : List Deferred} {bs : List Int} {W : World} {p x : Int} (h : RB w U g gB c N ds bs W) (e : p = 8 * (j : Int) + (m : Int)) (hm : m < 8) (hx : bs[j]? = some x) :
    RB w U g gB c N ds (putB bs p) (W.setCell ⟨gB, j, none⟩ (.int .u8 (bits .or .u8 x (2 ^ m % 256)))) := by
  obtain ⟨cur, hb, _⟩ := h.at_.flt.row
  refine ⟨h.at_.putB e hm hx, ?_, h.marks.move fun D hD hd => ?_⟩
  · rw [Below.heap_setCell _ _ _ _ (fun e => by dsimp only at e; rw [← e, h.box] at hb; cases hb)]; exact h.box
  · exact Below.heap_setCell _ _ _ _ (fun e => by dsimp only at e; rw [← e, hd] at hb; cases hb)
set_option maxRecDepth 100000 in
set_option maxHeartbeats 4000000 in
theorem build_in (A : Option Addr) (c0 : Nat) (ids : List ByteArray) (w : World) (hs : ∀ s ∈ ids, s.size ≤ 140737488351232) (hn : ids.length ≤ 2048) (hC : Kd.C Kd.string w A ids.length ids) :
    CallsIn Fence.wide 4 Try.prog 9 #[.slice A ids.length c0] w fun e w' => ∃ g gB c, e = .returned (.tuple #[.pointer (some ⟨g, 0, none⟩), .int .i64 0]) ∧ w.heap.size ≤ g ∧ w.heap.size ≤ gB ∧ Flt 42 w' g gB c (bloom ids) ∧ Below w.heap.size w w' := by
  have HC := Aside0.mk hC
  have HS := Aside0.mk hs
  have t1 : decide (2048 < (ids.length : Int)) = false := decide_eq_false (by omega)
  have t2 : decide (2048 < ids.length) = false := decide_eq_false (by omega)
  have hmx := sizeOfF_int ids.length
  have hsz : 8 ≤ sizeOfF ids.length ∧ sizeOfF ids.length ≤ 4096 := by unfold sizeOfF; split <;> omega
  have hbl : bloom ids = ids.foldl putN (List.replicate (sizeOfF ids.length) 0) := rfl
  generalize sizeOfF ids.length = N at hmx hsz hbl
  have HBL := Aside0.mk hbl
  clear hbl
  obtain ⟨hN1, hN2⟩ := hsz
  clear hC hs
  refine callsIn_of_wp_marks Try.func9 rfl trivial ?_ rfl
  simp only [Try.ntmps9, List.size_toArray, List.length_cons, List.length_nil, Nat.reduceAdd, Nat.reduceSub, Array.replicate_succ, Array.replicate_zero, List.push_toArray, List.append_toArray, List.nil_append, List.cons_append]
  refine wpIn_wide.2 ?_
  go_wp2_with ((with_reducible refine gate_dst (N := 15) rfl ?_); refine Kd.R_make (Kd.int .u8) (w0 := w) w.heap.size 5 rfl (N := 15) rfl 28 (.tmp 14) (.tmp 14) rfl (N : Int) rfl rfl Try.underlying28 (.int .u8 0) 1 info5 rfl (by decide) (by decide) 0 (ok := fun _ => True) (okp := fun _ => False) rfl (fun _ h => h.elim) trivial (by omega) (by omega) (Below.refl _ _) (Nat.le_refl _) ?_; intro v1 w1 ho hb hg hat; rcases brow_of_R ho with ⟨h5, h6⟩ | ⟨gB, c, h5, hg1, _, hrow⟩; (exfalso; have := congrArg List.length h6; simp at this; omega); rw [List.length_replicate, Int.toNat_natCast] at h5; subst h5; have HROW := Aside0.mk hrow; have HB1 := Aside0.mk hb; clear ho hb hg hat hrow)
  have D := Aside0.mk (show RB w (w1.heap.size + 2) w1.heap.size gB c N [] (List.replicate N 0) ((w1.alloc (.cells #[.slice (some ⟨gB, 0, none⟩) N c] 42)).alloc (.cells #[.pointer (some ⟨w1.heap.size, 0, none⟩)] 24)) from by
    have hr := HROW.out
    rw [Int.toNat_natCast] at hr
    have hD : BAt 42 w w1.heap.size gB c N (List.replicate N 0) (w1.alloc (.cells #[.slice (some ⟨gB, 0, none⟩) N c] 42)) := by
      refine ⟨⟨?_, hr.below (below_alloc (Below.refl _ _) _), by have := hr.lt; omega, fun c hc => by rw [List.eq_of_mem_replicate hc]; omega, by simpa using hN1, by simpa using hN2⟩, by simp, below_alloc HB1.out _, HB1.out.size, hg1⟩
      rw [List.length_replicate]
      exact heap_alloc_new w1 _
    refine ⟨hD.step (below_alloc (Below.refl _ _) _), ?_, trivial⟩
    have := heap_alloc_new (w1.alloc (.cells #[.slice (some ⟨gB, 0, none⟩) N c] 42)) (.cells #[.pointer (some ⟨w1.heap.size, 0, none⟩)] 24)
    rw [World.size_alloc] at this
    exact this)
  have hgB1 : gB < w1.heap.size := by have := HROW.out.lt; exact this
  have hwg : w.heap.size ≤ w1.heap.size := HB1.out.size
  have hsz1 : w1.heap.size + 2 = ((w1.alloc (.cells #[.slice (some ⟨gB, 0, none⟩) N c] 42)).alloc (.cells #[.pointer (some ⟨w1.heap.size, 0, none⟩)] 24)).heap.size := by simp
  clear t1 t2 hmx
  rw [hsz1] at D
  generalize (w1.alloc (.cells #[.slice (some ⟨gB, 0, none⟩) N c] 42)).alloc (.cells #[.pointer (some ⟨w1.heap.size, 0, none⟩)] 24) = W1 at D hsz1 ⊢
  generalize w1.heap.size = g at D hsz1 hgB1 hwg ⊢
  refine (wpIn_wide (n := 4)).1 ?_
  refine wpIn_loop (fun a' wr => ∃ (u6 u21 u22 u23 u24 u25 u26 u42 : Value) (i : Nat) (ds : List Deferred), (i ≤ ids.length ∧ Aside0 (g + 1 < wr.heap.size ∧ RB w wr.heap.size g gB c N ds ((ids.take i).foldl putN (List.replicate N 0)) wr)) ∧ a' = { tmps := #[.slice A ids.length c0, undef, .pointer none, .int .i64 0, .pointer (some ⟨g + 1, 0, none⟩), undef, u6, undef, .slice A ids.length c0, .int .i64 ids.length, .bool false, .slice A ids.length c0, .int .i64 ids.length, .int .i64 (2 * (ids.length : Int)), .int .i64 N, .slice (some ⟨gB, 0, none⟩) N c, .agg #[.slice (some ⟨gB, 0, none⟩) N c], .pointer (some ⟨g, 0, none⟩), .slice A ids.length c0, .int .i64 ids.length, .int .i64 (i : Int), u21, u22, u23, u24, u25, u26, undef, undef, undef, undef, undef, undef, undef, undef, undef, undef, undef, undef, undef, undef, undef, u42, undef], defers := ds })
    (fun a' _ => ids.length - (intOf (a'.tmps.getD 20 undef)).toNat) ?_ ?_
  · exact ⟨undef, undef, undef, undef, undef, undef, undef, undef, 0, [], ⟨Nat.zero_le _, Aside0.mk ⟨by omega, D.out⟩⟩, rfl⟩
  · rintro a' wr ⟨u6, u21, u22, u23, u24, u25, u26, u42, i, ds, ⟨hi, HE⟩, rfl⟩
    refine wpIn_wide.2 ?_
    by_cases hlt : i < ids.length
    · have t1 : decide ((i : Int) < (ids.length : Int)) = true := decide_eq_true (by omega)
      have t2 : decide (i < ids.length) = true := decide_eq_true hlt
      obtain ⟨ad, s, hA, hsi, hcs⟩ := at_name (Kd.C_below HC.out HE.out.2.at_.below) i hlt
      subst hA
      have HSI := Aside0.mk hsi
      have hbx := (blk_cell HE.out.2.box 0).trans rfl
      have hw4 : (i : Int) < (ids.length : Int) := by omega
      clear hsi
      go_wp2_with (refine (places_calls g s _).mono ?_; rintro e w' ⟨rfl, rfl⟩)
      refine (wpIn_wide (n := 4)).1 ?_
      generalize hbs : (ids.take i).foldl putN (List.replicate N 0) = bs at HE
      have HBS := Aside0.mk hbs
      have hgw := HE.out.1
      have hgBw : gB < wr.heap.size := HE.out.2.at_.flt.lt.2
      have hww : w.heap.size ≤ wr.heap.size := HE.out.2.at_.below.size
      have hbl := HE.out.2.at_.len
      have HE0 := Aside0.mk (HE.out.2.move hgw hgBw (W' := (wr.alloc (.cells #[.pointer (some ⟨g, 0, none⟩)] 24)).alloc (.cells #[.string s] 9)) (fun k hk _ => (below_alloc (below_alloc (Below.refl wr.heap.size wr) _) _).block k hk) (below_step HE.out.2.at_.below (below_alloc (below_alloc (Below.refl _ _) _) _)))
      have hR : Reads ((wr.alloc (.cells #[.pointer (some ⟨g, 0, none⟩)] 24)).alloc (.cells #[.string s] 9)) (wr.heap.size + 1) wr.heap.size g gB c s N := by
        refine ⟨?_, ?_, ?_⟩
        · have := heap_alloc_new (wr.alloc (.cells #[.pointer (some ⟨g, 0, none⟩)] 24)) (.cells #[.string s] 9)
          rw [World.size_alloc] at this
          exact this
        · exact (Below.heap_alloc _ _ _ (by simp)).trans (heap_alloc_new wr _)
        · have := HE0.out.at_.flt.box
          rw [hbl] at this
          exact this
      have hsW : ((wr.alloc (.cells #[.pointer (some ⟨g, 0, none⟩)] 24)).alloc (.cells #[.string s] 9)).heap.size = wr.heap.size + 2 := by simp
      have HRD := Aside0.mk hR
      clear hbs hR
      generalize hW0 : (wr.alloc (.cells #[.pointer (some ⟨g, 0, none⟩)] 24)).alloc (.cells #[.string s] 9) = W0 at HE0 HRD hsW ⊢
      refine wpIn_rangeFunc_ownF rfl (by omega) (gf := 19) (lb := #[.pointer (some ⟨wr.heap.size + 1, 0, none⟩), .pointer (some ⟨wr.heap.size, 0, none⟩)]) rfl trivial (enters_of Try.func19 (by kernel_rfl) rfl)
        (its_stops (wr.heap.size + 1) wr.heap.size g gB c N s (HS.out s (List.mem_of_getElem? HSI.out)) ⟨by omega, hN2⟩ W0 HRD.out) kp3_t (kp3_b (by omega) (by omega) (by omega)) (Below.refl _ _) (fun _ => rfl)
        (fun pre W => RB w wr.heap.size g gB c N ds ((pre.map fun y : Pos N => y.1).foldl putB bs) W ∧ Below w.heap.size w W)
        (fun _ _ _ => False)
        (fun xs A B row hs hg hr => ⟨hs.1.own hgw hgBw hww hg (fun r e => by have := (hr r e).1; omega), hs.2.grown hg hs.2.size (fun k e => by have := (hr k e).1; omega)⟩)
        (fun _ _ _ _ _ hs _ _ => hs)
        ⟨HE0.out, HE0.out.at_.below⟩
        (fun x => { tmps := #[.slice (some ad) ids.length c0, undef, .pointer none, .int .i64 0, .pointer (some ⟨g + 1, 0, none⟩), undef, .string s, .int .i64 x.1, .slice (some ad) ids.length c0, .int .i64 ids.length, .bool false, .slice (some ad) ids.length c0, .int .i64 ids.length, .int .i64 (2 * (ids.length : Int)), .int .i64 N, .slice (some ⟨gB, 0, none⟩) N c, .agg #[.slice (some ⟨gB, 0, none⟩) N c], .pointer (some ⟨g, 0, none⟩), .slice (some ad) ids.length c0, .int .i64 ids.length, .int .i64 (i : Int), .bool true, .pointer (some (ad.add i)), .string s, .pointer (some ⟨g, 0, none⟩), .string s, .func (.func 19) #[] #[.pointer (some ⟨wr.heap.size + 1, 0, none⟩), .pointer (some ⟨wr.heap.size, 0, none⟩)], .int .i64 x.1, undef, undef, undef, undef, undef, undef, undef, undef, undef, undef, undef, undef, undef, undef, u42, undef], defers := [] }) ?assign ?body ?done ?stop
      case assign =>
        intro l x W K hK
        gi_wp2
        exact hK
      case body =>
        rintro l pre ⟨p, p0, p1⟩ W ⟨hI, hB⟩ _
        have HI := Aside0.mk hI
        have hbx2 := (blk_cell hI.box 0).trans rfl
        have hfc := hI.at_.flt.cell
        rw [hI.at_.len] at hfc
        have hcap := hI.at_.flt.row.le
        rw [hI.at_.len] at hcap
        have hlen := hI.at_.len
        generalize hb2 : (pre.map fun y : Pos N => y.1).foldl putB bs = b2 at hI HI hlen
        have HB2 := Aside0.mk hb2
        obtain ⟨j, m, hpj, hm8⟩ : ∃ j m : Nat, p = 8 * (j : Int) + (m : Int) ∧ m < 8 := ⟨(p / 8).toNat, (p % 8).toNat, by omega, by omega⟩
        obtain ⟨y, hy⟩ : ∃ y, b2[j]? = some y := ⟨_, List.getElem?_eq_getElem (by omega)⟩
        have hcx := hI.at_.flt.row.cell hy
        have hfx := hI.at_.flt.row.free j
        have d1 : IntKind.i64.wrap (p.tdiv 8) = (j : Int) := by rw [Int.tdiv_eq_ediv_of_nonneg p0, IntWalk.i64_in _ (by omega)]; omega
        have d2 : IntKind.i64.wrap (p.tmod 8) = (m : Int) := by rw [Int.tmod_eq_emod_of_nonneg p0, IntWalk.i64_in _ (by omega)]; omega
        have d3 : p.tmod 8 = (m : Int) := by rw [Int.tmod_eq_emod_of_nonneg p0]; omega
        have d4 : (j : Int) < (N : Int) := by omega
        have HY := Aside0.mk hy
        have HPM := Aside0.mk hpj
        have HB := Aside0.mk hB
        clear hy hlen hpj hI hB hb2
        gi_wp2
        refine ⟨KeepsOthers.setCell _ _ _, ⟨?_, ?_, ?_⟩, ?_, ?_⟩
        · exact Below.heap_setCell _ _ _ _ (by dsimp only; omega)
        · exact Below.heap_setCell _ _ _ _ (by dsimp only; omega)
        · exact Below.heap_setCell _ _ _ _ (by dsimp only; exact HI.out.at_.flt.ne)
        · rw [List.map_append, List.foldl_append, HB2.out]
          exact HI.out.put HPM.out hm8 HY.out
        · exact HB.out.setCell (p := ⟨gB, j, none⟩) HI.out.at_.g1 _
      case done =>
        rintro D ys W hD hys ⟨hI, hB⟩ hK
        rw [hys, foldl_pls hbl] at hI
        have HN := Aside0.mk (show g + 1 < W.heap.size ∧ RB w W.heap.size g gB c N ({ target := .collected D, args := #[] } :: ds) ((ids.take (i + 1)).foldl putN (List.replicate N 0)) W from by
          have hDW : D < W.heap.size := (Array.getElem?_eq_some_iff.1 hK).1
          refine ⟨by omega, ?_⟩
          rw [List.take_add_one, HSI.out, List.foldl_append, HBS.out]
          exact ⟨hI.at_, hI.box, D, rfl, by omega, hDW, hK, hI.marks.mono (by omega)⟩)
        clear hys hI hB hK
        gi_wp2
        go_wp2
        refine ⟨⟨_, _, _, _, _, _, _, _, i + 1, _, ⟨by omega, HN⟩, rfl⟩, ?_⟩
        show ids.length - ((i : Int) + 1).toNat < ids.length - (i : Int).toNat
        omega
      case stop =>
        rintro D cc pre W hD hpre h hK
        exact h.elim
    · have t1 : decide ((i : Int) < (ids.length : Int)) = false := decide_eq_false (by omega)
      have t2 : decide (i < ids.length) = false := decide_eq_false hlt
      have hbx := (blk_cell HE.out.2.box 0).trans rfl
      go_wp2
      refine leaves_marks ds wr.heap.size wr HE.out.2.at_.below.size HE.out.2.marks fun W' hW' => ?_
      have hb3 := HE.out.2.at_.below.trans hW'.1
      have h := HE.out.2.at_
      rw [List.take_of_length_le (by omega), ← HBL.out] at h
      obtain ⟨cur, hcur, _⟩ := h.flt.row
      have hF := h.flt.move (hW'.2 g _ _ _ h.flt.box) (hW'.2 gB _ _ _ hcur)
      refine ⟨.tuple #[.pointer (some ⟨g, 0, none⟩), .int .i64 0], ?_, g, gB, c, rfl, h.g0, h.g1, hF, hb3⟩
      simp [results, Try.f9, go_sem]
theorem build_calls (A : Option Addr) (c0 : Nat) (ids : List ByteArray) (w : World) (hs : ∀ s ∈ ids, s.size ≤ 140737488351232) (hn : ids.length ≤ 2048) (hC : Kd.C Kd.string w A ids.length ids) :
    Calls Try.prog 9 #[.slice A ids.length c0] w fun e w' => ∃ g gB c, e = .returned (.tuple #[.pointer (some ⟨g, 0, none⟩), .int .i64 0]) ∧ w.heap.size ≤ g ∧ w.heap.size ≤ gB ∧ Flt 42 w' g gB c (bloom ids) ∧ Below w.heap.size w w' := callsIn_wide.1 (build_in A c0 ids w hs hn hC)
set_option maxHeartbeats 1000000 in
theorem build_many (A : Option Addr) (c0 n : Nat) (w : World) (hn : 2048 < n) : Calls Try.prog 9 #[.slice A n c0] w fun e w' => e = .returned (.tuple #[.pointer none, .int .i64 52]) ∧ w' = w := by
  have t1 : decide (2048 < (n : Int)) = true := decide_eq_true (by omega)
  have t2 : decide (2048 < n) = true := decide_eq_true hn
  go_enter Try.func9, Try.ntmps9
  go_wp2
  go_ret2
  exact ⟨rfl, rfl⟩
end Go.Proofs.Yteeimkafcadinaa.X
