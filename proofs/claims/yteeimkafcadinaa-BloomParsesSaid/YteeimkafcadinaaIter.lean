/- The program's iterator over the places of a name. -/
import Derived.RangeFuncNested
import Derived.RangeFuncBound
import Derived.RangeFuncCalls
import Derived.RangeFuncLeaves
import Derived.Shelf.Abstract
import Derived.Shelf.RegionOpen
import Derived.WalkKit
import Derived.OwnWalkIn
import Derived.TacticsInMore
import Derived.LoopNIn
import Derived.LoopIn
import Derived.IntWalk
import Derived.Test.YteeimkafcadinaaBits
namespace Go.Proofs.Yteeimkafcadinaa.X
open Go.RowKit Go.Shelf Go.Sort Go.Proofs.Yteeimkafcadinaa.B Go.Proofs.Yteeimkafcadinaa Go.Proofs.YteeimkafcadinaaW.PrintWords Go.Proofs.YteeimkafcadinaaW.PrintLast Go.Proofs.YteeimkafcadinaaW.PrintMore
attribute [local go_sem] Oper.semAt_some

/-- What the iterator reads between two rounds. -/
def Kp3 (a b c : Nat) (W W' : World) : Prop := W'.heap[a]? = W.heap[a]? ∧ W'.heap[b]? = W.heap[b]? ∧ W'.heap[c]? = W.heap[c]?
theorem kp3_t {a b c : Nat} {A B C : World} (h : Kp3 a b c A B) (k : Kp3 a b c B C) : Kp3 a b c A C := ⟨k.1.trans h.1, k.2.1.trans h.2.1, k.2.2.trans h.2.2⟩
theorem kp3_b {a b c : Nat} {w : World} (ha : a < w.heap.size) (hb : b < w.heap.size) (hc : c < w.heap.size) (W : World) (l : Nat) (o o' : Obj) (hl : w.heap.size ≤ l) (_ : W.heap[l]? = some o) (_ : o.isCells = false) (_ : o.isWalk = false) : Kp3 a b c W (W.putObj l o') :=
  ⟨World.putObj_heap_other (by omega), World.putObj_heap_other (by omega), World.putObj_heap_other (by omega)⟩
theorem kp3_below {a b c : Nat} {W W' : World} (ha : a < W.heap.size) (hb : b < W.heap.size) (hc : c < W.heap.size) (h : Below W.heap.size W W') : Kp3 a b c W W' := ⟨h.block a ha, h.block b hb, h.block c hc⟩
/-- The places of a name among n bits, in their order. -/
def pls (s : ByteArray) (n : Int) (k : Nat) : List Int := (List.range k).map fun (j : Nat) => pl s (j : Int) n
theorem pls_succ (s : ByteArray) (n : Int) (k : Nat) : pls s n (k + 1) = pls s n k ++ [pl s (k : Int) n] := by simp [pls, List.range_succ]
theorem pls_len (s : ByteArray) (n : Int) (k : Nat) : (pls s n k).length = k := by simp [pls]
/-- The boxes that the iterator reads: the name's, the filter's, the filter itself. -/
structure Reads (W : World) (ib fb g gB c : Nat) (s : ByteArray) (N : Nat) : Prop where
  i : W.heap[ib]? = some (.cells #[.string s] 9 (0, 0))
  f : W.heap[fb]? = some (.cells #[.pointer (some ⟨g, 0, none⟩)] 24 (0, 0))
  b : W.heap[g]? = some (.cells #[.slice (some ⟨gB, 0, none⟩) N c] 42 (0, 0))
theorem Reads.kp {W W' : World} {ib fb g gB c : Nat} {s : ByteArray} {N : Nat} (h : Reads W ib fb g gB c s N) (k : Kp3 ib fb g W W') : Reads W' ib fb g gB c s N := ⟨k.1.trans h.i, k.2.1.trans h.f, k.2.2.trans h.b⟩
theorem Reads.below {W W' : World} {ib fb g gB c : Nat} {s : ByteArray} {N : Nat} (h : Reads W ib fb g gB c s N) (hb : Below W.heap.size W W') : Reads W' ib fb g gB c s N := ⟨blk_below h.i hb, blk_below h.f hb, blk_below h.b hb⟩
theorem Reads.cells {W : World} {ib fb g gB c : Nat} {s : ByteArray} {N : Nat} (h : Reads W ib fb g gB c s N) : W.cell? ⟨ib, 0, none⟩ = some (.string s) ∧ W.cell? ⟨fb, 0, none⟩ = some (.pointer (some ⟨g, 0, none⟩)) ∧ W.cell? ⟨g, 0, none⟩ = some (.slice (some ⟨gB, 0, none⟩) N c) :=
  ⟨(blk_cell h.i 0).trans rfl, (blk_cell h.f 0).trans rfl, (blk_cell h.b 0).trans rfl⟩
theorem murmur_own (s : ByteArray) (k : Nat) (hk : k < 4) (hs : s.size ≤ 140737488351232) : digest_Murmur.f (bytesOf s) (k : Int) = some (Mur.murmur (bytesOf s) (k : Int)) := murmur_some s (k : Int) ⟨by omega, by omega⟩ hs
theorem two_way {e : Ending} {A B : Prop} (h : (e = .returned (.bool true) ∧ A) ∨ (e = .returned (.bool false) ∧ B)) : ∃ b : Bool, e = .returned (.bool b) ∧ Aside0 ((b = true → A) ∧ (b = false → B)) := by
  rcases h with ⟨h1, h2⟩ | ⟨h1, h2⟩
  · exact ⟨true, h1, Aside0.mk ⟨fun _ => h2, fun h => (by cases h)⟩⟩
  · exact ⟨false, h1, Aside0.mk ⟨fun h => (by cases h), fun _ => h2⟩⟩
set_option maxRecDepth 100000 in
set_option maxHeartbeats 2000000 in
theorem iter_in (l ib fb g gB c N : Nat) (s : ByteArray) (hs : s.size ≤ 140737488351232) (hN : 0 < N ∧ N ≤ 4096) (J Jx : List Int → World → Prop)
    (hJ : ∀ pre W W', J pre W → Below W.heap.size W W' → J pre W')
    (hY : ∀ pre x W, J pre W → pre.length < 4 → (0 ≤ x ∧ x < 8 * (N : Int)) → YieldAt Fence.wide 2 Try.prog l #[.int .i64 x] W fun e W' =>
      (e = .returned (.bool true) ∧ J (pre ++ [x]) W' ∧ Kp3 ib fb g W W') ∨ (e = .returned (.bool false) ∧ Jx (pre ++ [x]) W'))
    (W : World) (hR : Reads W ib fb g gB c s N) (h0 : J [] W) :
    CallsIn Fence.wide 3 Try.prog 19 #[.func (.yield l) #[] #[], .pointer (some ⟨ib, 0, none⟩), .pointer (some ⟨fb, 0, none⟩)] W fun e W' => (∃ v, e = .returned v) ∧
      ((∃ ys, ys = pls s (8 * (N : Int)) 4 ∧ J ys W') ∨ (∃ pre, (∃ k, k ≤ 4 ∧ pre = pls s (8 * (N : Int)) k) ∧ Jx pre W')) := by
  refine callsIn_of_wp Try.func19 rfl trivial ?_ rfl
  simp only [Try.ntmps19, List.size_toArray, List.length_cons, List.length_nil, Nat.reduceAdd, Nat.reduceSub, Array.replicate_succ, Array.replicate_zero, List.push_toArray, List.append_toArray, List.nil_append, List.cons_append]
  have HY := Aside0.mk hY
  have HJ := Aside0.mk hJ
  have HS := Aside0.mk hs
  have HD := Aside0.mk (show Reads W ib fb g gB c s N ∧ J [] W from ⟨hR, h0⟩)
  clear hY hJ hs hR h0
  gi_wp2
  gi_loopw [5] (fun i wr => ∃ k : Nat, k ≤ 4 ∧ i = .int .i64 k ∧ Aside0 (Reads wr ib fb g gB c s N ∧ J (pls s (8 * (N : Int)) k) wr))
    (fun i _ => 4 - (intOf i).toNat)
  case atStart => exact ⟨0, Nat.zero_le _, rfl, HD⟩
  case round =>
    obtain ⟨k, hk, rfl, HE⟩ := hrel
    by_cases hlt : k < 4
    · have t1 : decide ((k : Int) < 4) = true := decide_eq_true (by omega)
      have t2 : decide (k < 4) = true := decide_eq_true hlt
      obtain ⟨cap, W1, hrun, hcap, hb, hC⟩ := conv_string wr.drew s HS.out
      have HCAP := Aside0.mk hcap
      have HB := Aside0.mk hb
      have HC := Aside0.mk hC
      have HF := Aside0.mk (murmur_own s k hlt HS.out)
      obtain ⟨q0, q1, q2⟩ := HE.out.1.cells
      clear hcap hb hC
      have hu32 : IntKind.u32.wrap (k : Int) = (k : Int) := by rw [IntKind.wrap_u32]; omega
      have hmw := Mur.murmur_W (bytesOf s) (k : Int)
      have hpl : (Mur.murmur (bytesOf s) (k : Int)).tmod (8 * (N : Int)) = pl s (k : Int) (8 * (N : Int)) := Int.tmod_eq_emod_of_nonneg hmw.1
      have hpr := pl_range s (k : Int) (8 * (N : Int)) (by omega)
      generalize hM : Mur.murmur (bytesOf s) (k : Int) = M at hmw hpl HF
      have hw1 : IntKind.i64.wrap M = M := IntWalk.i64_in _ (by have := hmw.1; have := hmw.2; omega)
      have hw2 : IntKind.i64.wrap (8 * (N : Int)) = 8 * (N : Int) := IntWalk.i64_in _ (by omega)
      have HPR := Aside0.mk hpr
      have HPS := Aside0.mk (pls_succ s (8 * (N : Int)) k)
      have HPL := Aside0.mk (pls_len s (8 * (N : Int)) k)
      generalize pl s (k : Int) (8 * (N : Int)) = p at hpl hpr HPR HPS
      have hw3 : IntKind.i64.wrap p = p := IntWalk.i64_in _ (by omega)
      have hne : ¬ (8 * (N : Int)) = 0 := by omega
      have hne2 : ¬ (N : Int) = 0 := by omega
      clear hM hmw hpr
      have HB0 : Below wr.heap.size wr W1 := below_step (below_drew (Below.refl _ _)) HB.out
      obtain ⟨p0, p1, p2⟩ := (HE.out.1.below HB0).cells
      clear HB0
      gi_wp2_with fail
      gi_region_with (first | (refine ⟨trivial, ?_⟩; refine (callsIn_wide.2 (digest_Murmur.calls (some ⟨wr.heap.size, 0, none⟩) cap (bytesOf s) (k : Int) _ W1 HC.out HCAP.out HF.out)).mono ?_; rintro e w1 ⟨rfl, hb1⟩; have HBW := Aside0.mk (below_step (below_drew (Below.refl _ _)) (below_step HB.out hb1)); have HRD := Aside0.mk (HE.out.1.below HBW.out); obtain ⟨r0, r1, r2⟩ := HRD.out.cells; obtain ⟨fn, tmps, assign, body, hy, hR⟩ := HY.out _ p w1 (HJ.out _ _ _ HE.out.2 HBW.out) (by rw [HPL.out]; exact hlt) HPR.out; have HRR := Aside0.mk hR; clear hR hb1) | (refine HRR.out.mono ?_; rintro e W3 hpost; have hpost2 := two_way hpost; obtain ⟨bb, hpost3, HPO⟩ := hpost2; subst hpost3; clear hpost))
      all_goals (clear hy; cases bb)
      all_goals gi_wp2
      all_goals (first | (refine bodyPost_ret (results_none rfl _ _ _) rfl ?_; exact ⟨⟨_, rfl⟩, .inr ⟨_, ⟨k + 1, by omega, HPS.out.symm⟩, HPO.out.2 (by trivial)⟩⟩) | refine ⟨⟨k + 1, by omega, by first | rfl | go_num, Aside0.mk ⟨HRD.out.kp (HPO.out.1 (by trivial)).2, by rw [HPS.out]; exact (HPO.out.1 (by trivial)).1⟩⟩, by show 4 - ((k : Int) + 1).toNat < 4 - (k : Int).toNat; omega⟩)
    · have t1 : decide ((k : Int) < 4) = false := decide_eq_false (by omega)
      gi_wp2
      go_end0
      obtain rfl : k = 4 := by omega
      exact ⟨⟨_, rfl⟩, .inl ⟨_, rfl, HE.out.2⟩⟩
/-- The bits' numbers. -/
abbrev Pos (N : Nat) := { x : Int // 0 ≤ x ∧ x < 8 * (N : Int) }
theorem abides_below {α : Type} {B : Nat} {J : List α → World → Prop} (hJ : AbidesFrom B J) {pre : List α} {W W' : World} (h : J pre W) (hb : Below W.heap.size W W') : J pre W' :=
  hJ pre W W' none h ⟨hb.os, hb.tape, hb.output, hb.size, fun k hk _ => hb.block k hk⟩ (fun r e => by cases e)
theorem its_stops (ib fb g gB c N : Nat) (s : ByteArray) (hs : s.size ≤ 140737488351232) (hN : 0 < N ∧ N ≤ 4096) (w0 : World) (hR : Reads w0 ib fb g gB c s N) :
    SeqStopsK Fence.wide 3 Try.prog 19 #[.pointer (some ⟨ib, 0, none⟩), .pointer (some ⟨fb, 0, none⟩)] (fun x : Pos N => #[.int .i64 x.1]) (Kp3 ib fb g)
      (fun xs => xs.map (·.1) = pls s (8 * (N : Int)) 4) (fun pre => ∃ k, k ≤ 4 ∧ pre.map (·.1) = pls s (8 * (N : Int)) k) 4 w0 := by
  intro l J Jx W hb hJ hJx hY h0
  refine (iter_in l ib fb g gB c N s hs hN (fun pre W => ∃ q : List (Pos N), q.map (·.1) = pre ∧ J q W) (fun pre W => ∃ q : List (Pos N), q.map (·.1) = pre ∧ Jx q W) ?_ ?_ W (hR.below hb) ⟨[], rfl, h0⟩).mono ?_
  · rintro pre W1 W2 ⟨q, hq, hj⟩ hbel
    exact ⟨q, hq, abides_below hJ hj hbel⟩
  · rintro pre x W1 ⟨q, rfl, hj⟩ hlen hx
    refine (hY q ⟨x, hx⟩ W1 hj (by simpa using hlen)).mono ?_
    rintro e W2 (⟨h1, h2, h3⟩ | ⟨h1, h2⟩)
    · exact .inl ⟨h1, ⟨_, by simp, h2⟩, h3⟩
    · exact .inr ⟨h1, ⟨_, by simp, h2⟩⟩
  · rintro e W2 ⟨hv, ⟨ys, rfl, q, hq, hj⟩ | ⟨pre, ⟨k, hk, rfl⟩, q, hq, hj⟩⟩
    · exact ⟨hv, .inl ⟨q, hq, hj⟩⟩
    · exact ⟨hv, .inr ⟨q, ⟨k, hk, hq⟩, hj⟩⟩
set_option maxHeartbeats 1000000 in
theorem places_calls (g : Nat) (s : ByteArray) (w : World) :
    Calls Try.prog 16 #[.pointer (some ⟨g, 0, none⟩), .string s] w fun e w' => e = .returned (.func (.func 19) #[] #[.pointer (some ⟨w.heap.size + 1, 0, none⟩), .pointer (some ⟨w.heap.size, 0, none⟩)]) ∧
      w' = (w.alloc (.cells #[.pointer (some ⟨g, 0, none⟩)] 24)).alloc (.cells #[.string s] 9) := by
  go_enter Try.func16, Try.ntmps16
  go_wp2
  go_ret
  exact ⟨rfl, rfl⟩
end Go.Proofs.Yteeimkafcadinaa.X
