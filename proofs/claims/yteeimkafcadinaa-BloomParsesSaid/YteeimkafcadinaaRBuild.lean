/- The reference's Build. -/
import Derived.Test.YteeimkafcadinaaBits
import Derived.Deep.RegionLaw
import Derived.BigRegion
import Derived.IntWalk
namespace Go.Proofs.Yteeimkafcadinaa.X
open Go.RowKit Go.Sort Go.Proofs.Yteeimkafcadinaa.B Go.Proofs.Yteeimkafcadinaa Go.Proofs.YteeimkafcadinaaW.PrintWords Go.Proofs.YteeimkafcadinaaW.PrintLast Go.Proofs.YteeimkafcadinaaW.PrintMore
attribute [local go_sem] max2_int min2_int max_two min_two

theorem sizeOfF_int (n : Nat) : (if (8 : Int) < 2 * (n : Int) then 2 * (n : Int) else 8) = (sizeOfF n : Int) := by unfold sizeOfF; split <;> split <;> omega
theorem at_name {w : World} {A : Option Addr} {ids : List ByteArray} (h : Kd.C Kd.string w A ids.length ids) (i : Nat) (hi : i < ids.length) : ∃ ad s, A = some ad ∧ ids[i]? = some s ∧ w.cell? (ad.add i) = some (.string s) := by
  obtain ⟨ad, e, hc⟩ := h.2.2 (by omega)
  obtain ⟨c, hs, hK, hcell⟩ := hc i _ (List.getElem?_eq_getElem hi)
  obtain rfl : c = [Value.string ids[i]] := hK
  have h0 := hcell 0 _ rfl
  rw [show i * Kd.string.sz + 0 = i from Nat.mul_one i] at h0
  exact ⟨ad, ids[i], e, List.getElem?_eq_getElem hi, h0⟩
/-- The outer loop of Build, before name i. -/
structure BAt (t : Nat) (w : World) (g gB c : Nat) (N : Nat) (bs : List Int) (wr : World) : Prop where
  flt : Flt t wr g gB c bs
  len : bs.length = N
  below : Below w.heap.size w wr
  g0 : w.heap.size ≤ g
  g1 : w.heap.size ≤ gB
/-- One bit more. -/
theorem BAt.put {t : Nat} {w wr : World} {g gB c N j m : Nat} {bs : List Int} {s : ByteArray} {k : Nat} {p x : Int} (h : BAt t w g gB c N bs wr) (hp : p = pl s (k : Int) (8 * (bs.length : Int))) (e : p = 8 * (j : Int) + (m : Int)) (hm : m < 8) (hx : bs[j]? = some x) :
    BAt t w g gB c N (putK s bs k) (wr.setCell ⟨gB, j, none⟩ (.int .u8 (bits .or .u8 x (2 ^ m % 256)))) := by
  have ej : (p / 8).toNat = j := by omega
  have em : (p % 8).toNat = m := by omega
  have ex : byteAt bs p = x := byteAt_of (by rw [ej]; exact hx)
  have eo : putK s bs k = bs.set j (bits .or .u8 x (2 ^ m % 256)) := by
    unfold putK putB orb
    rw [← hp, ej, em, ex]
  have hr := orb_range (h.flt.bytes x (List.mem_of_getElem? hx)) p
  unfold orb at hr
  rw [em] at hr
  refine ⟨?_, by rw [putK_len]; exact h.len, h.below.setCell (p := ⟨gB, j, none⟩) h.g1 _, h.g0, h.g1⟩
  rw [eo]
  exact h.flt.set j _ hr
theorem BAt.step {t : Nat} {w wr w2 : World} {g gB c N : Nat} {bs : List Int} (h : BAt t w g gB c N bs wr) (hb : Below wr.heap.size wr w2) : BAt t w g gB c N bs w2 := ⟨h.flt.below hb, h.len, below_step h.below hb, h.g0, h.g1⟩
set_option maxHeartbeats 2000000 in
theorem refbuild_calls (A : Option Addr) (c0 : Nat) (ids : List ByteArray) (w : World) (hs : ∀ s ∈ ids, s.size ≤ 140737488351232) (hn : ids.length ≤ 2048) (hC : Kd.C Kd.string w A ids.length ids) :
    Calls Try.prog 15 #[.slice A ids.length c0] w fun e w' => ∃ g gB c, e = .returned (.tuple #[.pointer (some ⟨g, 0, none⟩), .int .i64 0]) ∧ w.heap.size ≤ g ∧ w.heap.size ≤ gB ∧ Flt 40 w' g gB c (bloom ids) ∧ Below w.heap.size w w' := by
  have HC := Aside0.mk hC
  have HS := Aside0.mk hs
  have t1 : decide (2048 < (ids.length : Int)) = false := decide_eq_false (by omega)
  have t2 : decide (2048 < ids.length) = false := decide_eq_false (by omega)
  have hmx := sizeOfF_int ids.length
  have hsz : 8 ≤ sizeOfF ids.length ∧ sizeOfF ids.length ≤ 4096 := by unfold sizeOfF; split <;> omega
  have hbl : bloom ids = ids.foldl putN (List.replicate (sizeOfF ids.length) 0) := rfl
  generalize sizeOfF ids.length = N at hmx hsz hbl
  have HBL := Aside0.mk hbl
  clear hbl
  obtain ⟨hN1, hN2⟩ := hsz
  clear hC hs
  go_enter Try.func15, Try.ntmps15
  go_wp2_with ((with_reducible refine gate_dst (N := 15) rfl ?_); refine Kd.R_make (Kd.int .u8) (w0 := w) w.heap.size 5 rfl (N := 15) rfl 28 (.tmp 14) (.tmp 14) rfl (N : Int) rfl rfl Try.underlying28 (.int .u8 0) 1 info5 rfl (by decide) (by decide) 0 (ok := fun _ => True) (okp := fun _ => False) rfl (fun _ h => h.elim) trivial (by omega) (by omega) (Below.refl _ _) (Nat.le_refl _) ?_; intro v1 w1 ho hb hg hat; rcases brow_of_R ho with ⟨h5, h6⟩ | ⟨gB, c, h5, hg1, _, hrow⟩; (exfalso; have := congrArg List.length h6; simp at this; omega); rw [List.length_replicate, Int.toNat_natCast] at h5; subst h5; have HROW := Aside0.mk hrow; have HB1 := Aside0.mk hb; clear ho hb hg hat hrow)
  have D := Aside0.mk (show BAt 40 w w1.heap.size gB c N (List.replicate N 0) (w1.alloc (.cells #[.slice (some ⟨gB, 0, none⟩) N c] 40)) from by
    have hr := HROW.out
    rw [Int.toNat_natCast] at hr
    refine ⟨⟨?_, hr.below (below_alloc (Below.refl _ _) _), by have := hr.lt; omega, fun c hc => by rw [List.eq_of_mem_replicate hc]; omega, by simpa using hN1, by simpa using hN2⟩, by simp, below_alloc HB1.out _, HB1.out.size, hg1⟩
    rw [List.length_replicate]
    exact heap_alloc_new w1 _)
  clear t1 t2 hmx
  generalize w1.heap.size = g at D ⊢
  go_loopw [5] (fun v5 wr => ∃ i : Nat, v5 = .int .i64 i ∧ i ≤ ids.length ∧ Aside0 (BAt 40 w g gB c N ((ids.take i).foldl putN (List.replicate N 0)) wr)) (fun v5 _ => ids.length - (intOf v5).toNat)
  case atStart => exact ⟨0, rfl, Nat.zero_le _, D⟩
  case round =>
    obtain ⟨i, rfl, hi, HD⟩ := hrel
    by_cases hlt : i < ids.length
    · have t1 : decide ((i : Int) < (ids.length : Int)) = true := decide_eq_true (by omega)
      have t2 : decide (i < ids.length) = true := decide_eq_true hlt
      obtain ⟨s, hsi⟩ : ∃ s, ids[i]? = some s := ⟨_, List.getElem?_eq_getElem hlt⟩
      have HSI := Aside0.mk hsi
      generalize hbs : (ids.take i).foldl putN (List.replicate N 0) = bs at HD
      have HBS := Aside0.mk hbs
      clear hsi hbs
      go_wp2_with fail
      go_loopw [6] (fun v6 wr => ∃ (k : Nat), v6 = .int .i64 k ∧ k ≤ 4 ∧ Aside0 (BAt 40 w g gB c N ((List.range k).foldl (putK s) bs) wr)) (fun v6 _ => 4 - (intOf v6).toNat)
      case atStart => exact ⟨0, rfl, by omega, HD⟩
      case round =>
        obtain ⟨k, rfl, hk, HE⟩ := hrel
        by_cases hlt4 : k < 4
        · have t3 : decide ((k : Int) < 4) = true := decide_eq_true (by omega)
          have t4 : decide (k < 4) = true := decide_eq_true hlt4
          generalize hb2 : (List.range k).foldl (putK s) bs = b2 at HE
          have HB2 := Aside0.mk hb2
          obtain ⟨ad, s', hA, hs', hcs⟩ := at_name (Kd.C_below HC.out HE.out.below) i hlt
          obtain rfl : s = s' := Option.some.inj (HSI.out.symm.trans hs')
          subst hA
          have hfc := HE.out.flt.cell
          rw [HE.out.len] at hfc
          have hcap := HE.out.flt.row.le
          rw [HE.out.len] at hcap
          have hl8 : IntKind.i64.wrap (8 * (N : Int)) = 8 * (N : Int) := IntWalk.i64_in _ (by omega)
          have hw4 : (i : Int) < (ids.length : Int) := by omega
          have hpr := pl_range s (k : Int) (8 * (N : Int)) (by omega)
          have HP := Aside0.mk (fun W => place_calls s (k : Int) (8 * (N : Int)) W (HS.out s (List.mem_of_getElem? HSI.out)) ⟨by omega, by omega⟩ ⟨by omega, by omega⟩)
          have HPL := Aside0.mk (show pl s (k : Int) (8 * (b2.length : Int)) = pl s (k : Int) (8 * (N : Int)) by rw [HE.out.len])
          generalize pl s (k : Int) (8 * (N : Int)) = p at hpr HP HPL
          obtain ⟨p0, p1⟩ := hpr
          clear hb2 hs'
          go_wp2_with fail
          go_region_law (refine goes_ Try.func18 (by kernel_rfl) rfl #[.string s, .int .i64 k, .int .i64 (8 * (N : Int))] (by rfl) rfl rfl (by simp only [List.map_toArray, List.map_cons, List.map_nil]; rfl) ?_; refine (HP.out _).mono ?_; rintro e w' ⟨rfl, hb⟩; refine ⟨_, rfl, ?_⟩)
          all_goals
            have HE2 := Aside0.mk (HE.out.step (below_step (below_drew (Below.refl _ _)) hb))
            clear hb HE HP hcs hfc hcap hw4
            have hfc := HE2.out.flt.cell
            rw [HE2.out.len] at hfc
            have hcap := HE2.out.flt.row.le
            rw [HE2.out.len] at hcap
            obtain ⟨j, m, hp, hm8⟩ : ∃ j m : Nat, p = 8 * (j : Int) + (m : Int) ∧ m < 8 := ⟨(p / 8).toNat, (p % 8).toNat, by omega, by omega⟩
            have hlen := HE2.out.len
            obtain ⟨x, hx⟩ : ∃ x, b2[j]? = some x := ⟨_, List.getElem?_eq_getElem (by omega)⟩
            have hcx := HE2.out.flt.row.cell hx
            have hfx := HE2.out.flt.row.free j
            have d1 : IntKind.i64.wrap (p.tdiv 8) = (j : Int) := by rw [Int.tdiv_eq_ediv_of_nonneg p0, IntWalk.i64_in _ (by omega)]; omega
            have d2 : IntKind.i64.wrap (p.tmod 8) = (m : Int) := by rw [Int.tmod_eq_emod_of_nonneg p0, IntWalk.i64_in _ (by omega)]; omega
            have d3 : p.tmod 8 = (m : Int) := by rw [Int.tmod_eq_emod_of_nonneg p0]; omega
            have d4 : (j : Int) < (N : Int) := by omega
            have HX := Aside0.mk hx
            have HPM := Aside0.mk hp
            clear hx hlen hp
            go_simp
            go_wp2_with fail
            go_region
            go_wp2
            go_roundw
            case rel => exact ⟨k + 1, by go_num, by omega, ⟨by rw [List.range_succ, List.foldl_append, HB2.out]; exact (HE2.out.put HPL.out.symm HPM.out hm8 HX.out).step (below_drew (Below.refl _ _))⟩⟩
            case measure => simp [intOf]; omega
        · have t3 : decide ((k : Int) < 4) = false := decide_eq_false (by omega)
          have t4 : decide (k < 4) = false := decide_eq_false hlt4
          have hk4 : k = 4 := by omega
          have HK4 := Aside0.mk hk4
          clear hk4
          go_wp2
          go_roundw
          case rel => exact ⟨i + 1, by go_num, by omega, ⟨by rw [List.take_add_one, HSI.out, List.foldl_append, HBS.out]; have := HE.out; rw [HK4.out] at this; exact this⟩⟩
          case measure => simp [intOf]; omega
    · have t1 : decide ((i : Int) < (ids.length : Int)) = false := decide_eq_false (by omega)
      have t2 : decide (i < ids.length) = false := decide_eq_false hlt
      go_wp2
      go_ret2
      have h := HD.out
      rw [List.take_of_length_le (by omega), ← HBL.out] at h
      exact ⟨g, gB, c, rfl, h.g0, h.g1, h.flt, h.below⟩
theorem refbuild_many (A : Option Addr) (c0 n : Nat) (w : World) (hn : 2048 < n) : Calls Try.prog 15 #[.slice A n c0] w fun e w' => e = .returned (.tuple #[.pointer none, .int .i64 52]) ∧ w' = w := by
  have t1 : decide (2048 < (n : Int)) = true := decide_eq_true (by omega)
  have t2 : decide (2048 < n) = true := decide_eq_true hn
  go_enter Try.func15, Try.ntmps15
  go_wp2
  go_ret2
  exact ⟨rfl, rfl⟩
end Go.Proofs.Yteeimkafcadinaa.X
