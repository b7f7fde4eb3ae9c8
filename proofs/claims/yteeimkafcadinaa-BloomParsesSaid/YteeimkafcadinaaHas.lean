/- The program's Has: a loop over the iterator of the places. -/
import Derived.RangeFuncFrom
import Derived.Test.YteeimkafcadinaaIter
namespace Go.Proofs.Yteeimkafcadinaa.X
open Go.RowKit Go.Shelf Go.Sort Go.Proofs.Yteeimkafcadinaa.B Go.Proofs.Yteeimkafcadinaa Go.Proofs.YteeimkafcadinaaW.PrintWords Go.Proofs.YteeimkafcadinaaW.PrintLast Go.Proofs.YteeimkafcadinaaW.PrintMore
attribute [local go_sem] Oper.semAt_some

theorem pls_mem {s : ByteArray} {n : Int} {k : Nat} {x : Int} (h : x ∈ pls s n k) : ∃ j : Nat, j < k ∧ x = pl s (j : Int) n := by
  obtain ⟨j, hj, e⟩ := List.mem_map.1 h
  exact ⟨j, List.mem_range.1 hj, e.symm⟩
theorem mem_pls {s : ByteArray} {n : Int} {k j : Nat} (h : j < k) : pl s (j : Int) n ∈ pls s n k := List.mem_map.2 ⟨j, List.mem_range.2 h, rfl⟩
theorem cell_new_l (W : World) (v : Value) (t : TypeId) : (W.alloc (.cells #[v] t)).cell? ⟨W.heap.size, 0, none⟩ = some v ∧ (W.alloc (.cells #[v] t)).frozen? ⟨W.heap.size, 0, none⟩ = false := by
  have h := World.alloc_heap_new W (.cells #[v] t)
  exact ⟨by unfold World.cell?; rw [h]; rfl, by unfold World.frozen?; rw [h]; rfl⟩
theorem cell_alloc_l {W : World} {a : Addr} {v : Value} (o : Obj) (h : W.cell? a = some v) : (W.alloc o).cell? a = some v := cell_kept h (World.grownBy_alloc W o none) (fun r e => by cases e)
theorem frozen_alloc_l {W : World} {a : Addr} {v : Value} (o : Obj) (h : W.cell? a = some v) (hf : W.frozen? a = false) : (W.alloc o).frozen? a = false := (frozen_kept h (World.grownBy_alloc W o none) (fun r e => by cases e)).trans hf
/-- Has, between two rounds. -/
structure HAt (w W : World) (g : Nat) (r : Bool) : Prop where
  c0 : W.cell? ⟨w.heap.size, 0, none⟩ = some (.pointer (some ⟨g, 0, none⟩))
  c1 : W.cell? ⟨w.heap.size + 1, 0, none⟩ = some (.bool r)
  f1 : W.frozen? ⟨w.heap.size + 1, 0, none⟩ = false
theorem HAt.own {w W W' : World} {g : Nat} {r : Bool} {row : Option Nat} (h : HAt w W g r) (hg : W.grownBy W' row) (hr : ∀ r, row = some r → ∃ o : Obj, W.heap[r]? = some o ∧ o.isCells = false) : HAt w W' g r :=
  ⟨cell_kept h.c0 hg hr, cell_kept h.c1 hg hr, (frozen_kept h.c1 hg hr).trans h.f1⟩
theorem HAt.set {w W : World} {g : Nat} {r : Bool} (h : HAt w W g r) (b : Bool) : HAt w (W.setCell ⟨w.heap.size + 1, 0, none⟩ (.bool b)) g b :=
  ⟨by rw [World.cell?_setCell_other]; exact h.c0; (intro e; have := congrArg Addr.block e; simp at this), World.cell?_setCell_same' _ _ _ (by rw [h.c1]; rfl), by rw [World.frozen?_setCell]; exact h.f1⟩
set_option maxRecDepth 100000 in
set_option maxHeartbeats 20000000 in
theorem has_in {g gB c : Nat} {bs : List Int} (s : ByteArray) (w : World) (hs : s.size ≤ 140737488351232) (hF : Flt 42 w g gB c bs) :
    CallsIn Fence.wide 4 Try.prog 13 #[.pointer (some ⟨g, 0, none⟩), .string s] w fun e w' => e = .returned (.bool (hasB bs s)) ∧ Below w.heap.size w w' := by
  have h1 : 1 ≤ 4 := by omega
  have HF := Aside0.mk hF
  have HS := Aside0.mk hs
  obtain ⟨hg, hgB⟩ := hF.lt
  have h8 := hF.ge
  have hle := hF.le
  have hcap := hF.row.le
  clear hF hs
  refine callsIn_of_wp_marks Try.func13 rfl trivial ?_ rfl
  simp only [Try.ntmps13, List.size_toArray, List.length_cons, List.length_nil, Nat.reduceAdd, Nat.reduceSub, Array.replicate_succ, Array.replicate_zero, List.push_toArray, List.append_toArray, List.nil_append, List.cons_append]
  refine wpIn_wide.2 ?_
  go_wp2_with (refine (places_calls g s _).mono ?_; rintro e w' ⟨rfl, rfl⟩)
  refine (wpIn_wide (n := 4)).1 ?_
  have c0 := cell_new_l w (.pointer (some ⟨g, 0, none⟩)) 24
  have c1 := cell_new_l (w.alloc (.cells #[.pointer (some ⟨g, 0, none⟩)] 24)) (.bool false) 4
  simp only [World.size_alloc] at c1
  have H0 : HAt w (((((w.alloc (.cells #[.pointer (some ⟨g, 0, none⟩)] 24)).alloc (.cells #[.bool false] 4)).alloc (.cells #[.pointer (some ⟨g, 0, none⟩)] 24)).alloc (.cells #[.string s] 9))) g false :=
    ⟨cell_alloc_l _ (cell_alloc_l _ (cell_alloc_l _ c0.1)), cell_alloc_l _ (cell_alloc_l _ c1.1), frozen_alloc_l _ (cell_alloc_l _ c1.1) (frozen_alloc_l _ c1.1 c1.2)⟩
  have hB0 : Below w.heap.size w (((((w.alloc (.cells #[.pointer (some ⟨g, 0, none⟩)] 24)).alloc (.cells #[.bool false] 4)).alloc (.cells #[.pointer (some ⟨g, 0, none⟩)] 24)).alloc (.cells #[.string s] 9))) :=
    below_alloc (below_alloc (below_alloc (below_alloc (Below.refl _ _) _) _) _) _
  obtain ⟨W0, hW0⟩ : ∃ W0, ((((w.alloc (.cells #[.pointer (some ⟨g, 0, none⟩)] 24)).alloc (.cells #[.bool false] 4)).alloc (.cells #[.pointer (some ⟨g, 0, none⟩)] 24)).alloc (.cells #[.string s] 9)) = W0 := ⟨_, rfl⟩
  have hsz : W0.heap.size = w.heap.size + 4 := by rw [← hW0]; simp
  have hR : Reads W0 (w.heap.size + 3) (w.heap.size + 2) g gB c s bs.length := by
    rw [← hW0]
    refine ⟨?_, ?_, ?_⟩
    · have := World.alloc_heap_new (((w.alloc (.cells #[.pointer (some ⟨g, 0, none⟩)] 24)).alloc (.cells #[.bool false] 4)).alloc (.cells #[.pointer (some ⟨g, 0, none⟩)] 24)) (.cells #[.string s] 9)
      simpa using this
    · refine (Below.heap_alloc _ _ _ (by simp)).trans ?_
      have := World.alloc_heap_new ((w.alloc (.cells #[.pointer (some ⟨g, 0, none⟩)] 24)).alloc (.cells #[.bool false] 4)) (.cells #[.pointer (some ⟨g, 0, none⟩)] 24)
      simpa using this
    · exact blk_below HF.out.box hB0
  rw [hW0] at H0 hB0 ⊢
  clear hW0 c0 c1
  refine wpIn_rangeFunc_ownF rfl h1 (gf := 19) (lb := #[.pointer (some ⟨w.heap.size + 3, 0, none⟩), .pointer (some ⟨w.heap.size + 2, 0, none⟩)]) rfl trivial (enters_of Try.func19 (by kernel_rfl) rfl)
    (its_stops (w.heap.size + 3) (w.heap.size + 2) g gB c bs.length s HS.out ⟨by omega, hle⟩ W0 hR) kp3_t (kp3_b (by omega) (by omega) (by omega)) (Below.refl _ _) (fun _ => rfl)
    (fun pre W => ((∀ x ∈ pre, tb (byteAt bs x.1) x.1 = true) ∧ HAt w W g false) ∧ Below w.heap.size w W)
    (fun cc pre W => ((cc = .ret ∧ ∃ x ∈ pre, tb (byteAt bs x.1) x.1 = false) ∧ HAt w W g false) ∧ Below w.heap.size w W)
    (OwnFrom.and (Own.from (fun s A B row hs hg hr => ⟨hs.1, hs.2.own hg hr⟩) _) (ownFrom_below (Nat.le_refl _) (by omega)))
    (fun cc => OwnFrom.and (Own.from (fun s A B row hs hg hr => ⟨hs.1, hs.2.own hg hr⟩) _) (ownFrom_below (Nat.le_refl _) (by omega)))
    ⟨⟨fun x hx => (by cases hx), H0⟩, hB0⟩
    (fun x => { tmps := #[.pointer (some ⟨g, 0, none⟩), .string s, .pointer (some ⟨w.heap.size, 0, none⟩), undef, .pointer (some ⟨w.heap.size + 1, 0, none⟩), .int .i64 x.1, .pointer (some ⟨g, 0, none⟩), .string s, .func (.func 19) #[] #[.pointer (some ⟨w.heap.size + 3, 0, none⟩), .pointer (some ⟨w.heap.size + 2, 0, none⟩)], .int .i64 x.1, undef, undef, undef, undef, undef, undef, undef, undef, undef, undef, undef, undef, undef, undef], defers := [] }) ?assign ?body ?done ?stop
  case assign =>
    intro l x W K hK
    gi_wp2
    exact hK
  case body =>
    rintro l pre ⟨p, p0, p1⟩ W ⟨⟨hp, hA⟩, hB⟩ _
    have q0 := hA.c0
    have q1 := hA.c1
    have q2 := hA.f1
    have HP := Aside0.mk hp
    have HA := Aside0.mk hA
    have HB := Aside0.mk hB
    have HF2 := Aside0.mk (HF.out.below hB)
    have hfc := HF2.out.cell
    obtain ⟨j, m, hpj, hm8⟩ : ∃ j m : Nat, p = 8 * (j : Int) + (m : Int) ∧ m < 8 := ⟨(p / 8).toNat, (p % 8).toNat, by omega, by omega⟩
    obtain ⟨x, hx⟩ : ∃ x, bs[j]? = some x := ⟨_, List.getElem?_eq_getElem (by omega)⟩
    have hcx := HF2.out.row.cell hx
    have d1 : IntKind.i64.wrap (p.tdiv 8) = (j : Int) := by rw [Int.tdiv_eq_ediv_of_nonneg p0, IntWalk.i64_in _ (by omega)]; omega
    have d2 : IntKind.i64.wrap (p.tmod 8) = (m : Int) := by rw [Int.tmod_eq_emod_of_nonneg p0, IntWalk.i64_in _ (by omega)]; omega
    have d3 : p.tmod 8 = (m : Int) := by rw [Int.tmod_eq_emod_of_nonneg p0]; omega
    have d4 : (j : Int) < (bs.length : Int) := by omega
    have HT := Aside0.mk (show (bits .and .u8 x (2 ^ m % 256) == 0) = !tb (byteAt bs p) p from by
      rw [byteAt_of (by rw [show (p / 8).toNat = j by omega]; exact hx), ← tb_own ⟨(HF2.out.bytes x (List.mem_of_getElem? hx)).1, (HF2.out.bytes x (List.mem_of_getElem? hx)).2⟩, show (p % 8).toNat = m by omega])
    clear hx hp hA hB hpj
    cases htb : tb (byteAt bs p) p with
    | true =>
      have t3 : (bits .and .u8 x (2 ^ m % 256) == 0) = false := by rw [HT.out, htb]; rfl
      have HTB := Aside0.mk htb
      clear htb
      gi_wp2
      refine ⟨KeepsOthers.refl _, ?_, ?_, HB.out⟩
      · exact ⟨rfl, rfl, rfl⟩
      · refine ⟨?_, HA.out⟩
        intro y hy
        rcases List.mem_append.1 hy with h | h
        · exact HP.out y h
        · obtain rfl := List.mem_singleton.1 h
          exact HTB.out
    | false =>
      have t3 : (bits .and .u8 x (2 ^ m % 256) == 0) = true := by rw [HT.out, htb]; rfl
      have HTB := Aside0.mk htb
      clear htb
      gi_wp2
      refine ⟨KeepsOthers.setCell _ _ _, ?_, ?_⟩
      · refine ⟨⟨rfl, ⟨p, p0, p1⟩, ?_, HTB.out⟩, HA.out.set false⟩
        exact List.mem_append.2 (.inr (List.mem_singleton.2 rfl))
      · exact HB.out.setCell (p := ⟨w.heap.size + 1, 0, none⟩) (Nat.le_succ _) _
  case done =>
    rintro D ys W hD hys ⟨⟨hall, hA⟩, hB⟩ hK
    have q1 := hA.c1
    have q2 := hA.f1
    gi_wp2
    go_wp2
    have hK' := (KeepsOthers.setCell W ⟨w.heap.size + 1, 0, none⟩ (.bool true)).same D _ hK rfl
    refine ⟨by simp, .inl ⟨_, _, rfl, run_takeDeferred hK', ?_⟩⟩
    have hc5 := cell_kept (hA.set true).c1 (grownBy_putObj' _ D (.deferred none)) (fun r e => by cases e; exact ⟨_, hK', rfl⟩)
    refine ⟨.bool true, ?_, ?_, (hB.setCell (p := ⟨w.heap.size + 1, 0, none⟩) (by simp) _).trans (belowK_b (w := w) (Nat.le_refl _) _ D _ _ (by omega) hK' rfl rfl)⟩
    · simp [results, Try.f13, go_sem, hc5]
    · rw [hasB_true (fun k hk => ?_)]
      obtain ⟨x, hx, e⟩ := List.mem_map.1 (hys ▸ mem_pls (s := s) (n := 8 * (bs.length : Int)) hk)
      have := hall x hx
      rw [e] at this
      exact this
  case stop =>
    rintro D cc pre W hD ⟨k, hk, hpre⟩ ⟨⟨⟨rfl, x, hx, hf⟩, hA⟩, hB⟩ hK
    gi_wp2
    refine ⟨by simp, .inl ⟨_, _, rfl, run_takeDeferred hK, ?_⟩⟩
    have hc5 := cell_kept hA.c1 (grownBy_putObj' _ D (.deferred none)) (fun r e => by cases e; exact ⟨_, hK, rfl⟩)
    refine ⟨.bool false, ?_, ?_, hB.trans (belowK_b (w := w) (Nat.le_refl _) W D _ _ (by omega) hK rfl rfl)⟩
    · simp [results, Try.f13, go_sem, hc5]
    · obtain ⟨j, hj, e⟩ := pls_mem (hpre ▸ List.mem_map.2 ⟨x, hx, rfl⟩)
      rw [hasB_false (k := j) (by omega)]
      rw [e] at hf
      exact hf
theorem has_calls {g gB c : Nat} {bs : List Int} (s : ByteArray) (w : World) (hs : s.size ≤ 140737488351232) (hF : Flt 42 w g gB c bs) :
    Calls Try.prog 13 #[.pointer (some ⟨g, 0, none⟩), .string s] w fun e w' => e = .returned (.bool (hasB bs s)) ∧ Below w.heap.size w w' := callsIn_wide.1 (has_in s w hs hF)
end Go.Proofs.Yteeimkafcadinaa.X
