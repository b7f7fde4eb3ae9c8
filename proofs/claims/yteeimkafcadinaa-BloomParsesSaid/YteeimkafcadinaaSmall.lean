/- bytes.Clone, Filter.Bytes, both programs' Parse, and the reference's place of a name. -/
import Derived.Test.YteeimkafcadinaaFlt
import Derived.WalkSpells
namespace Go.Proofs.Yteeimkafcadinaa.X
open Go.RowKit Go.Sort Go.Proofs.Yteeimkafcadinaa.B Go.Proofs.Yteeimkafcadinaa Go.Proofs.YteeimkafcadinaaW.PrintWords Go.Proofs.YteeimkafcadinaaW.PrintLast Go.Proofs.YteeimkafcadinaaW.PrintMore

set_option maxHeartbeats 1000000 in
theorem clone_some (ad : Addr) (c : Nat) (xs : List Int) (w : World) (hn : xs.length < 8796093022208) (hC : Kd.C (Kd.int .u8) w (some ad) xs.length xs) :
    Calls Try.prog 17 #[.slice (some ad) xs.length c] w fun e w' => ∃ v : Value, e = .returned v ∧ Kd.R (Kd.int .u8) 5 w' w.heap.size (fun _ => True) v xs ∧ Below w.heap.size w w' := by
  have hq := fun (W : World) => Lib.run_eql_slice_nil (P := Try.prog) W 28 5 (some ad) xs.length c 0 0 Try.underlying28
  have HR0 := Aside0.mk hC
  have HB := Aside0.mk (Below.refl w.heap.size w)
  have HN := Aside0.mk hn
  clear hC hn
  go_enter Try.func17, Try.ntmps17
  go_wp2_with (first | ((with_reducible refine gate_dst (N := 5) rfl ?_); refine Kd.R_lit (Kd.int .u8) _ 5 ?hg (N := 5) ?hd (xs := ([] : List Int)) (inner := []) (ok := fun _ => True) (okp := fun _ => True) ?hr ?hp (fun _ hk => hk) trivial (Below.refl _ _) (Nat.le_refl _) (by simp) ?_; (case hd => rfl); (case hg => rfl); (case hr => first | (go_simp; done) | (go_simp; rfl)); (case hp => exact (Reps.none _ _)); intro v261 w4 ho5 hb hg_ hnew_; clear hg_ hnew_; have n0_ := Aside0.mk (Kd.R_lower ho5 (below_size (by repeat (first | (with_reducible first | exact HB.out | apply below_alloc | apply pw_below_drewN | apply below_drew1) | exact HB.out)))); have n1_ := Aside0.mk (below_step (by repeat (first | (with_reducible first | exact HB.out | apply below_alloc | apply pw_below_drewN | apply below_drew1) | exact HB.out)) hb); clear HB; have HO262 := n0_; have HB := n1_; clear n0_ n1_; clear hb ho5) | ((with_reducible refine gate_builtin (b := .append) (xs := #[.tmp 5, .tmp 6]) rfl ?_); at_builtin; refine Kd.R_append_rows (Kd.int .u8) (w0 := w) w.heap.size rfl (.tmp 5) (.tmp 6) 28 5 (.int .u8 0) 1 rfl Try.underlying28 info5 rfl (by decide) (by decide) v261 [] xs _ _ _ (fun _ => True) (fun _ => False) rfl rfl ?aO ?aR (fun x cs h => h) (fun _ h => h.elim) ?aF ?aB ?aS ?aL ?_; (case aR => repeat (first | exact (Kd.C_below HR0.out HB.out) | (with_reducible refine Kd.C_alloc ?_ _) | (with_reducible refine Kd.C_drewN ?_ _) | (with_reducible refine Kd.C_drew ?_))); (case aB => exact (by repeat (first | (with_reducible first | exact HB.out | apply below_alloc | apply pw_below_drewN | apply below_drew1) | exact HB.out))); (case aF => exact (fun _ _ => trivial)); (case aO => exact (by (with_reducible repeat (first | apply Kd.R_alloc | apply Kd.R_drewN | apply Kd.R_drew)); exact HO262.out)); (case aS => exact (below_size (by repeat (first | (with_reducible first | exact HB.out | apply below_alloc | apply pw_below_drewN | apply below_drew1) | exact HB.out)))); (case aL => have := HN.out; simp; omega); intro v264 w6 ho hb hg hat; have n0_ := Aside0.mk (hb); have n1_ := Aside0.mk (ho); clear HB; clear HO262; have HB := n0_; have HO265 := n1_; clear n0_ n1_; clear ho hb hg hat))
  go_ret
  exact ⟨_, rfl, HO265.out, HB.out⟩
theorem bytes_calls {c g gB : Nat} {bs : List Int} (w : World) (hF : Flt 42 w g gB c bs) :
    Calls Try.prog 10 #[.pointer (some ⟨g, 0, none⟩)] w fun e w' => ∃ g1 c1, e = .returned (.slice (some ⟨g1, 0, none⟩) bs.length c1) ∧ w.heap.size ≤ g1 ∧ BRow w' g1 c1 bs ∧ Below w.heap.size w w' := by
  have hc := hF.cell
  have HQ := Aside0.mk (clone_some ⟨gB, 0, none⟩ c bs w (by have := hF.le; omega) (C_of_brow hF.row))
  have HF := Aside0.mk hF
  clear hF
  go_enter Try.func10, Try.ntmps10
  go_wp2_with fail
  refine HQ.out.mono ?_
  rintro e w1 ⟨v, rfl, hv, hb1⟩
  rcases brow_of_R hv with ⟨rfl, h0⟩ | ⟨g1, c1, rfl, hg1, _, hrow⟩
  · have := HF.out.ge
    rw [h0] at this
    simp at this
  · have HROW := Aside0.mk hrow
    clear hv hrow
    go_wp2
    go_ret
    exact ⟨g1, c1, rfl, hg1, HROW.out, hb1⟩
/-- Is a number of bytes one that a filter may have? -/
def okLen (n : Nat) : Bool := decide (8 ≤ n) && decide (n ≤ 4096) && decide (n % 2 = 0)
set_option maxHeartbeats 1000000 in
theorem parse_bad (A : Option Addr) (c n : Nat) (w : World) (h : okLen n = false) (hn : n ≤ 9223372036854775807) :
    Calls Try.prog 11 #[.slice A n c] w fun e w' => e = .returned (.tuple #[.pointer none, .int .i64 50]) ∧ w' = w := by
  have hcs : n < 8 ∨ (8 ≤ n ∧ 4096 < n) ∨ (8 ≤ n ∧ n ≤ 4096 ∧ n % 2 = 1) := by
    simp only [okLen, Bool.and_eq_false_iff, decide_eq_false_iff_not] at h; omega
  rcases hcs with h1 | ⟨h1, h2⟩ | ⟨h1, h2, h3⟩
  · have t1 : decide ((n : Int) < 8) = true := decide_eq_true (by omega)
    have t2 : decide (n < 8) = true := decide_eq_true h1
    clear h
    go_enter Try.func11, Try.ntmps11
    go_wp2
    go_ret2
    exact ⟨rfl, rfl⟩
  · have t1 : decide ((n : Int) < 8) = false := decide_eq_false (by omega)
    have t2 : decide (n < 8) = false := decide_eq_false (by omega)
    have t3 : decide (4096 < (n : Int)) = true := decide_eq_true (by omega)
    have t4 : decide (4096 < n) = true := decide_eq_true h2
    clear h
    go_enter Try.func11, Try.ntmps11
    go_wp2
    go_ret2
    exact ⟨rfl, rfl⟩
  · have t1 : decide ((n : Int) < 8) = false := decide_eq_false (by omega)
    have t2 : decide (n < 8) = false := decide_eq_false (by omega)
    have t3 : decide (4096 < (n : Int)) = false := decide_eq_false (by omega)
    have t4 : decide (4096 < n) = false := decide_eq_false (by omega)
    have t5 : (n : Int) % 2 = 1 := by omega
    clear h
    go_enter Try.func11, Try.ntmps11
    go_wp2
    go_ret2
    exact ⟨rfl, rfl⟩
set_option maxHeartbeats 1000000 in
theorem refparse_bad (A : Option Addr) (c n : Nat) (w : World) (h : okLen n = false) (hn : n ≤ 9223372036854775807) :
    Calls Try.prog 12 #[.slice A n c] w fun e w' => e = .returned (.tuple #[.pointer none, .int .i64 50]) ∧ w' = w := by
  have hcs : n < 8 ∨ (8 ≤ n ∧ 4096 < n) ∨ (8 ≤ n ∧ n ≤ 4096 ∧ n % 2 = 1) := by
    simp only [okLen, Bool.and_eq_false_iff, decide_eq_false_iff_not] at h; omega
  rcases hcs with h1 | ⟨h1, h2⟩ | ⟨h1, h2, h3⟩
  · have t1 : decide ((n : Int) < 8) = true := decide_eq_true (by omega)
    have t2 : decide (n < 8) = true := decide_eq_true h1
    clear h
    go_enter Try.func12, Try.ntmps12
    go_wp2
    go_ret2
    exact ⟨rfl, rfl⟩
  · have t1 : decide ((n : Int) < 8) = false := decide_eq_false (by omega)
    have t2 : decide (n < 8) = false := decide_eq_false (by omega)
    have t3 : decide (4096 < (n : Int)) = true := decide_eq_true (by omega)
    have t4 : decide (4096 < n) = true := decide_eq_true h2
    clear h
    go_enter Try.func12, Try.ntmps12
    go_wp2
    go_ret2
    exact ⟨rfl, rfl⟩
  · have t1 : decide ((n : Int) < 8) = false := decide_eq_false (by omega)
    have t2 : decide (n < 8) = false := decide_eq_false (by omega)
    have t3 : decide (4096 < (n : Int)) = false := decide_eq_false (by omega)
    have t4 : decide (4096 < n) = false := decide_eq_false (by omega)
    have t5 : (n : Int) % 2 = 1 := by omega
    clear h
    go_enter Try.func12, Try.ntmps12
    go_wp2
    go_ret2
    exact ⟨rfl, rfl⟩
set_option maxHeartbeats 1000000 in
theorem parse_good (ad : Addr) (c : Nat) (bs : List Int) (w : World) (h : okLen bs.length = true) (hB : Ad.Bytes bs) (hC : Kd.C (Kd.int .u8) w (some ad) bs.length bs) :
    Calls Try.prog 11 #[.slice (some ad) bs.length c] w fun e w' => ∃ g gB c1, e = .returned (.tuple #[.pointer (some ⟨g, 0, none⟩), .int .i64 0]) ∧ w.heap.size ≤ g ∧ w.heap.size ≤ gB ∧ Flt 42 w' g gB c1 bs ∧ Below w.heap.size w w' := by
  have hcs : 8 ≤ bs.length ∧ bs.length ≤ 4096 ∧ bs.length % 2 = 0 := by
    simp only [okLen, Bool.and_eq_true, decide_eq_true_eq] at h; omega
  obtain ⟨h1, h2, h3⟩ := hcs
  have t1 : decide ((bs.length : Int) < 8) = false := decide_eq_false (by omega)
  have t2 : decide (bs.length < 8) = false := decide_eq_false (by omega)
  have t3 : decide (4096 < (bs.length : Int)) = false := decide_eq_false (by omega)
  have t4 : decide (4096 < bs.length) = false := decide_eq_false (by omega)
  have t5 : (bs.length : Int) % 2 = 0 := by omega
  have HQ := Aside0.mk (clone_some ad c bs w (by omega) hC)
  have HBB := Aside0.mk hB
  clear h hB hC
  go_enter Try.func11, Try.ntmps11
  go_wp2_with fail
  refine HQ.out.mono ?_
  rintro e w1 ⟨v, rfl, hv, hb1⟩
  rcases brow_of_R hv with ⟨rfl, h0⟩ | ⟨g1, c1, rfl, hg1, _, hrow⟩
  · rw [h0] at h1
    simp at h1
  · have HROW := Aside0.mk hrow
    have HB1 := Aside0.mk hb1
    clear hv hrow hb1
    go_wp2
    go_ret2
    refine ⟨w1.heap.size, g1, c1, rfl, HB1.out.size, hg1, ⟨heap_alloc_new w1 _, HROW.out.below (below_alloc (Below.refl _ _) _), ?_, HBB.out, h1, h2⟩, below_alloc HB1.out _⟩
    have := HROW.out.lt
    omega
set_option maxHeartbeats 1000000 in
theorem refparse_good (ad : Addr) (c : Nat) (bs : List Int) (w : World) (h : okLen bs.length = true) (hB : Ad.Bytes bs) (hC : Kd.C (Kd.int .u8) w (some ad) bs.length bs) :
    Calls Try.prog 12 #[.slice (some ad) bs.length c] w fun e w' => ∃ g gB c1, e = .returned (.tuple #[.pointer (some ⟨g, 0, none⟩), .int .i64 0]) ∧ w.heap.size ≤ g ∧ w.heap.size ≤ gB ∧ Flt 40 w' g gB c1 bs ∧ Below w.heap.size w w' := by
  have hcs : 8 ≤ bs.length ∧ bs.length ≤ 4096 ∧ bs.length % 2 = 0 := by
    simp only [okLen, Bool.and_eq_true, decide_eq_true_eq] at h; omega
  obtain ⟨h1, h2, h3⟩ := hcs
  have t1 : decide ((bs.length : Int) < 8) = false := decide_eq_false (by omega)
  have t2 : decide (bs.length < 8) = false := decide_eq_false (by omega)
  have t3 : decide (4096 < (bs.length : Int)) = false := decide_eq_false (by omega)
  have t4 : decide (4096 < bs.length) = false := decide_eq_false (by omega)
  have t5 : (bs.length : Int) % 2 = 0 := by omega
  have HC := Aside0.mk hC
  have HBB := Aside0.mk hB
  have HL := Aside0.mk (show ([] : List Int).length + bs.length ≤ 140737488355328 by simp; omega)
  clear h hB hC
  go_enter Try.func12, Try.ntmps12
  go_wp2_with ((with_reducible refine gate_builtin (b := .append) (xs := #[.tmp 25, .tmp 26]) rfl ?_); at_builtin; refine Kd.R_append_rows (Kd.int .u8) (w0 := w) w.heap.size rfl (.tmp 25) (.tmp 26) 28 5 (.int .u8 0) 1 rfl Try.underlying28 info5 rfl (by decide) (by decide) (.slice none 0 0) [] bs (some ad) bs.length c (fun k => k ≠ w.heap.size) (fun _ => False) rfl rfl (Kd.R_nil _ _ _ _ _) (Kd.C_alloc HC.out _) (fun x cs h => h) (fun _ h => h.elim) (fun k hk => by simp at hk; omega) (below_alloc (Below.refl _ _) _) (by simp) (by have := HL.out; omega) ?_; intro v1 w1 ho hb hg hat; have HB := Aside0.mk hb; have HX := Aside0.mk ((hg.block w.heap.size (by simp) (by simp [Value.ownBlock])).trans (heap_alloc_new w (.cells #[.slice none 0 0] 40))); have hcx := (blk_cell HX.out 0).trans rfl; have hfx := blk_frozen HX.out 0; rcases brow_of_R ho with ⟨h5, h6⟩ | ⟨g1, c2, h5, hg1, hne, hrow⟩; (exfalso; rw [List.nil_append] at h6; rw [h6] at h1; simp at h1); rw [List.nil_append] at h5 hrow; subst h5; have HROW := Aside0.mk hrow; clear ho hb hg hat hrow)
  go_ret2
  refine ⟨w.heap.size, g1, c2, rfl, Nat.le_refl _, hg1, ⟨?_, HROW.out.move ?_, Ne.symm hne, HBB.out, h1, h2⟩, HB.out.setCell (p := ⟨w.heap.size, 0, none⟩) (Nat.le_refl _) _⟩
  · rw [setCell_eq]
    simp [mapBlock, Array.getElem?_modify, HX.out, onCells]
  · rw [setCell_eq]
    simp [mapBlock, Array.getElem?_modify, Ne.symm hne]
end Go.Proofs.Yteeimkafcadinaa.X
