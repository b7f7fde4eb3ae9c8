/- What digest.scrambled and digest.Murmur compute, of every bytes and every seed. -/
import Derived.Test.YteeimkafcadinaaBx0
import Derived.Test.YteeimkafcadinaaBx1
import Derived.Test.YteeimkafcadinaaRot
import Derived.Test.YteeimkafcadinaaMur
import Derived.OpenShut
import Derived.Laws.CopyOwn
namespace Go.Proofs.Yteeimkafcadinaa.X
open Go.RowKit Go.Proofs.Yteeimkafcadinaa.B Go.Proofs.Yteeimkafcadinaa Go.Proofs.YteeimkafcadinaaW.PrintWords Go.Proofs.YteeimkafcadinaaW.PrintLast Go.Proofs.YteeimkafcadinaaW.PrintMore

theorem or_word (a b c d : Int) (ha : 0 ≤ a ∧ a < 256) (hb : 0 ≤ b ∧ b < 256) (hc : 0 ≤ c ∧ c < 256) (hd : 0 ≤ d ∧ d < 256) :
    bits .or .u32 (bits .or .u32 (bits .or .u32 a (b * 256)) (c * 65536)) (d * 16777216) = Mur.word a b c d := by
  have hw : ∀ n : Int, 0 ≤ n → n < 2 ^ 32 → IntKind.u32.wrap n = n := fun n h0 h1 => by rw [IntKind.wrap_u32]; omega
  have comm : ∀ x y : Int, bits .or .u32 x y = bits .or .u32 y x := fun x y => by simp only [bits, BitVec.or_comm]
  rw [comm a (b * 256), bits_join .u32 32 (by decide) hw 8 (b * 256) a (by omega) (by omega) (by omega) (by omega) (by omega) (by omega),
    comm _ (c * 65536), bits_join .u32 32 (by decide) hw 16 (c * 65536) _ (by omega) (by omega) (by omega) (by omega) (by omega) (by omega),
    comm _ (d * 16777216), bits_join .u32 32 (by decide) hw 24 (d * 16777216) _ (by omega) (by omega) (by omega) (by omega) (by omega) (by omega)]
  unfold Mur.word
  omega
theorem rotl (x : Int) (hx : Mur.W x) : bits_RotateLeft32.f x 15 = some (Mur.rot15 x) ∧ bits_RotateLeft32.f x 13 = some (Mur.rot13 x) := by
  have hw : ∀ n : Int, 0 ≤ n → n < 2 ^ 32 → IntKind.u32.wrap n = n := fun n h0 h1 => by rw [IntKind.wrap_u32]; omega
  have e1 : bits .and .u64 (IntKind.u64.wrap 15) 31 = 15 := by decide +kernel
  have e2 : bits .and .u64 (IntKind.u64.wrap 13) 31 = 13 := by decide +kernel
  have e3 : IntKind.u64.wrap (32 - 15) = 17 := by decide +kernel
  have e4 : IntKind.u64.wrap (32 - 13) = 19 := by decide +kernel
  have s1 : shl .u32 x 15 = x * 32768 % 4294967296 := by unfold shl; rw [IntKind.wrap_u32]; rfl
  have s2 : shr .u32 x 17 = x / 131072 := by unfold shr; rfl
  have s3 : shl .u32 x 13 = x * 8192 % 4294967296 := by unfold shl; rw [IntKind.wrap_u32]; rfl
  have s4 : shr .u32 x 19 = x / 524288 := by unfold shr; rfl
  unfold Mur.W at hx
  constructor
  · unfold bits_RotateLeft32.f
    rw [e1, e3, if_pos (by omega), if_pos (by omega), s1, s2]
    congr 1
    exact bits_join .u32 32 (by decide) hw 15 _ _ (by omega) (by omega) (by omega) (by omega) (by omega) (by omega)
  · unfold bits_RotateLeft32.f
    rw [e2, e4, if_pos (by omega), if_pos (by omega), s3, s4]
    congr 1
    exact bits_join .u32 32 (by decide) hw 13 _ _ (by omega) (by omega) (by omega) (by omega) (by omega) (by omega)
set_option maxHeartbeats 800000 in
theorem scrambled_calls (a b c d : Int) (ha : 0 ≤ a ∧ a < 256) (hb : 0 ≤ b ∧ b < 256) (hc : 0 ≤ c ∧ c < 256) (hd : 0 ≤ d ∧ d < 256) (w : World) :
    Calls Try.prog 23 #[.agg #[.int .u8 a, .int .u8 b, .int .u8 c, .int .u8 d]] w fun e w' => e = .returned (.int .u32 (Mur.mix (Mur.word a b c d))) ∧ Below w.heap.size w w' := by
  go_enter Try.func23, Try.ntmps23
  go_wp2_with fail
  rw [or_word a b c d ha hb hc hd]
  have HX := Aside0.mk (rotl (Mur.word a b c d * 3432918353 % 4294967296) (Mur.mod_W _)).1
  with_reducible refine (bits_RotateLeft32.calls _ _ _ _ HX.out).mono ?_
  rintro e w1 ⟨rfl, hb1⟩
  go_wp2
  go_ret
  exact ⟨rfl, below_step (below_alloc (Below.refl _ _) _) hb1.below⟩
/-- What the bytes of a row are. -/
def bytesB (l : List Int) : Bool := l.all fun c => decide (0 ≤ c) && decide (c < 256)
theorem bytes_of {l : List Int} (h : bytesB l = true) : Ad.Bytes l := fun c hc => by
  have := List.all_eq_true.1 h c hc
  simpa using this
theorem bytesB_of {l : List Int} (h : Ad.Bytes l) : bytesB l = true := List.all_eq_true.2 fun c hc => by
  have := h c hc
  simpa using this
def digest_Murmur.f (l0 : List Int) (a1 : Int) : Option Int := if bytesB l0 = true ∧ 0 ≤ a1 ∧ a1 < 4294967296 ∧ l0.length ≤ 140737488351232 then some (Mur.murmur l0 a1) else none
theorem digest_Murmur.known {l0 : List Int} {a1 r : Int} (h : digest_Murmur.f l0 a1 = some r) : Ad.Bytes l0 ∧ Mur.W a1 ∧ l0.length ≤ 140737488351232 ∧ r = Mur.murmur l0 a1 := by
  unfold digest_Murmur.f at h
  split at h
  · rename_i hc
    exact ⟨bytes_of hc.1, ⟨hc.2.1, hc.2.2.1⟩, hc.2.2.2, (Option.some.inj h).symm⟩
  · cases h
theorem cells_of {w : World} {A : Option Addr} {l : List Int} (h : Kd.C (Kd.int .u8) w A l.length l) (hp : 0 < l.length) : ∃ ad, A = some ad ∧ ∀ j, j < l.length → w.cell? (ad.add j) = some (.int .u8 (l.getD j 0)) :=
  (Kd.reads_of_C (d := (0 : Int)) (h1 := fun _ => rfl) h).2.2 hp
theorem array_at (A : Option Addr) (c : Nat) (W : World) : Sem.run Try.prog (Instr.arrayAt 54 (.slice A 4 c)) W = .ok (.pointer A) W := by kernel_rfl
theorem rel_step {w wr w2 : World} {l l0 : List Int} {a1 hh a b cc d : Int} {ad : Addr} {c : Nat} {m : List Int} (h4 : 4 ≤ l.length) (hl : l = a :: b :: cc :: d :: m)
    (HF : Kd.C (Kd.int .u8) wr (some ad) l.length l ∧ l.length ≤ c ∧ Ad.Bytes l ∧ Mur.W hh ∧ l.length ≤ l0.length ∧ Mur.body l hh = Mur.body l0 a1) (HW : Below w.heap.size w wr) (hb : Below wr.heap.size wr w2) :
    ∃ A c_1 l_1 hh_1, Value.slice (if c = 4 then some ad else some { block := ad.block, off := ad.off + 4 }) (l.length - 4) (c - 4) = Value.slice A l_1.length c_1 ∧
      Value.int IntKind.u32 ((Mur.rot13 (bits BinOp.xor IntKind.u32 hh (Mur.mix (Mur.word a b cc d))) * 5 % 4294967296 + 3864292196) % 4294967296) = Value.int IntKind.u32 hh_1 ∧
      Aside0 (Kd.C (Kd.int .u8) w2 A l_1.length l_1 ∧ l_1.length ≤ c_1 ∧ Ad.Bytes l_1 ∧ Mur.W hh_1 ∧ l_1.length ≤ l0.length ∧ Mur.body l_1 hh_1 = Mur.body l0 a1) ∧ Aside0 (Below w.heap.size w w2) := by
  have hd := Kd.C_drop (m := 4) (c := c) (Kd.C_below HF.1 hb) h4 HF.2.1
  refine ⟨_, c - 4, l.drop 4, _, ?_, rfl, ⟨hd, ?_, Ad.bytes_drop HF.2.2.1 4, Mur.step_W _ _, ?_, ?_⟩, ⟨below_step HW hb⟩⟩
  · rw [List.length_drop]
    rfl
  · rw [List.length_drop]; have := HF.2.1; omega
  · rw [List.length_drop]; have := HF.2.2.2.2.1; omega
  · rw [← HF.2.2.2.2.2, hl]
    rfl
theorem pad_of (l : List Int) (hl : l.length < 4) (hb : Ad.Bytes l) : ∃ p0 p1 p2 p3 : Int, splice [Value.int .u8 0, Value.int .u8 0, Value.int .u8 0, Value.int .u8 0] 0 (l.map fun x => Value.int .u8 x) = [Value.int .u8 p0, Value.int .u8 p1, Value.int .u8 p2, Value.int .u8 p3] ∧
    (0 ≤ p0 ∧ p0 < 256) ∧ (0 ≤ p1 ∧ p1 < 256) ∧ (0 ≤ p2 ∧ p2 < 256) ∧ (0 ≤ p3 ∧ p3 < 256) ∧ Mur.word p0 p1 p2 p3 = Mur.rest l := by
  match l, hl, hb with
  | [], _, _ => exact ⟨0, 0, 0, 0, rfl, by omega, by omega, by omega, by omega, rfl⟩
  | [a], _, hb => exact ⟨a, 0, 0, 0, rfl, hb a (by simp), by omega, by omega, by omega, rfl⟩
  | [a, b], _, hb => exact ⟨a, b, 0, 0, rfl, hb a (by simp), hb b (by simp), by omega, by omega, rfl⟩
  | [a, b, c], _, hb => exact ⟨a, b, c, 0, rfl, hb a (by simp), hb b (by simp), hb c (by simp), by omega, rfl⟩
theorem side_of (l : List Int) (hl : l.length < 4) : (l.map fun x => Value.int .u8 x).length = Nat.min l.length 4 ∧ 0 + (l.map fun x => Value.int .u8 x).length ≤ [Value.int .u8 0, Value.int .u8 0, Value.int .u8 0, Value.int .u8 0].length ∧ ∀ v ∈ (l.map fun x => Value.int .u8 x), v.oneCell' = true := by
  refine ⟨?_, ?_, ?_⟩
  · rw [List.length_map]; exact (Nat.min_eq_left (by omega)).symm
  · simp only [List.length_map, List.length_cons, List.length_nil]; omega
  · intro v hv
    obtain ⟨x, _, rfl⟩ := List.mem_map.1 hv
    rfl
theorem copied {w1 : World} {b : Nat} {L : List Value} {p0 p1 p2 p3 : Int} (hg : Hid (w1.heap[b]? = some (.cells L.toArray 54 (0, 0)))) (hp : L = [Value.int .u8 p0, Value.int .u8 p1, Value.int .u8 p2, Value.int .u8 p3]) :
    w1.cell? ⟨b, 0, none⟩ = some (.int .u8 p0) ∧ w1.cell? ⟨b, 1, none⟩ = some (.int .u8 p1) ∧ w1.cell? ⟨b, 2, none⟩ = some (.int .u8 p2) ∧ w1.cell? ⟨b, 3, none⟩ = some (.int .u8 p3) := by
  subst hp
  have h := hg.out
  exact ⟨(cell_of_row w1 b 0 _ _ _ h).trans rfl, (cell_of_row w1 b 1 _ _ _ h).trans rfl, (cell_of_row w1 b 2 _ _ _ h).trans rfl, (cell_of_row w1 b 3 _ _ _ h).trans rfl⟩
set_option maxHeartbeats 1000000 in
theorem digest_Murmur.calls (A0 : Option Addr) (c0 : Nat) (l0 : List Int) (a1 : Int) (r : Int) (w : World) (hr0 : Kd.C (Kd.int .u8) w A0 l0.length l0) (hc0 : l0.length ≤ c0) (h : digest_Murmur.f l0 a1 = some r) :
    Calls Try.prog 20 #[.slice A0 l0.length c0, .int .u32 a1] w fun e w' => e = .returned (.int .u32 r) ∧ Below w.heap.size w w' := by
  obtain ⟨hb, hs, hn, rfl⟩ := digest_Murmur.known h
  clear h
  have HR := Aside0.mk hr0
  have HC := Aside0.mk hc0
  have HB := Aside0.mk hb
  clear hr0 hc0 hb
  obtain ⟨s0, s1⟩ := hs
  go_enter Try.func20, Try.ntmps20
  go_wp2
  go_loopw [0, 5] (fun v0 v5 wr => ∃ (A : Option Addr) (c : Nat) (l : List Int) (hh : Int), v0 = .slice A l.length c ∧ v5 = .int .u32 hh ∧ Aside0 (Kd.C (Kd.int .u8) wr A l.length l ∧ l.length ≤ c ∧ Ad.Bytes l ∧ Mur.W hh ∧ l.length ≤ l0.length ∧ Mur.body l hh = Mur.body l0 a1) ∧ Aside0 (Below w.heap.size w wr)) (fun v0 _ _ => match v0 with | .slice _ n _ => n | _ => 0)
  case atStart => exact ⟨A0, c0, l0, a1, rfl, rfl, ⟨HR.out, HC.out, HB.out, ⟨s0, s1⟩, Nat.le_refl _, rfl⟩, ⟨Below.refl _ _⟩⟩
  case round =>
    obtain ⟨A, c, l, hh, rfl, rfl, HF, HW⟩ := hrel
    by_cases h4 : 4 ≤ l.length
    · have t1 : decide ((4 : Int) ≤ (l.length : Int)) = true := decide_eq_true (by omega)
      have t2 : decide (4 ≤ l.length) = true := decide_eq_true h4
      obtain ⟨i0, hi0, _, hsz, _⟩ := info_parts info5
      have hcut := cut_to (P := Try.prog) 28 5 .i64 Try.underlying28 hi0 A l.length c 4 (by omega) (by omega) HF.out.2.1
      have hcut2 := cut_from (P := Try.prog) 28 5 .i64 Try.underlying28 hi0 1 hsz A l.length c 4 (by omega) (by omega)
      obtain ⟨ad, rfl, hc⟩ := cells_of HF.out.1 (by omega)
      clear hi0 hsz
      have harr := array_at (some ad) c
      obtain ⟨a, b, cc, d, m, hl⟩ := Mur.four_of l h4
      have ba := HF.out.2.2.1 a (by rw [hl]; simp)
      have bb := HF.out.2.2.1 b (by rw [hl]; simp)
      have bc := HF.out.2.2.1 cc (by rw [hl]; simp)
      have bd := HF.out.2.2.1 d (by rw [hl]; simp)
      have e0 : wr.cell? ad = some (.int .u8 a) := by have := hc 0 (by omega); rw [hl] at this; simpa [Addr.add] using this
      have e1 : wr.cell? ⟨ad.block, ad.off + 1, none⟩ = some (.int .u8 b) := by have := hc 1 (by omega); rw [hl] at this; simpa [Addr.add] using this
      have e2 : wr.cell? ⟨ad.block, ad.off + 2, none⟩ = some (.int .u8 cc) := by have := hc 2 (by omega); rw [hl] at this; simpa [Addr.add] using this
      have e3 : wr.cell? ⟨ad.block, ad.off + 3, none⟩ = some (.int .u8 d) := by have := hc 3 (by omega); rw [hl] at this; simpa [Addr.add] using this
      have HL := Aside0.mk hl
      clear hl hc
      go_wp2_with fail
      with_reducible refine (scrambled_calls a b cc d ba bb bc bd _).mono ?_
      rintro e w1 ⟨rfl, hb1⟩
      go_wp2_with fail
      have HX := Aside0.mk (rotl (bits .xor .u32 hh (Mur.mix (Mur.word a b cc d))) (Mur.xo_W hh _ HF.out.2.2.2.1 (Mur.mix_W _))).2
      with_reducible refine (bits_RotateLeft32.calls _ _ _ _ HX.out).mono ?_
      rintro e w2 ⟨rfl, hb2⟩
      go_wp2
      go_roundw
      case rel => exact rel_step h4 HL.out HF.out HW.out (below_step hb1 hb2.below)
      case measure => show l.length - 4 < l.length; omega
    · have t1 : decide ((4 : Int) ≤ (l.length : Int)) = false := decide_eq_false (by omega)
      have t2 : decide (4 ≤ l.length) = false := decide_eq_false h4
      obtain ⟨p0, p1, p2, p3, hp, b0, b1, b2, b3, hw⟩ := pad_of l (by omega) HF.out.2.2.1
      have HP := Aside0.mk hp
      have HWD := Aside0.mk hw
      clear hp hw
      have hz := HW.out.size
      have hpos : 0 < (l.map fun x => Value.int .u8 x).length → ∃ ad, A = some ad ∧ ∀ j v, (l.map fun x => Value.int .u8 x)[j]? = some v → (wr.alloc (Obj.cells #[Value.int .u8 0, Value.int .u8 0, Value.int .u8 0, Value.int .u8 0] 54)).cell? (ad.add j) = some v := by
        intro h0
        obtain ⟨ad, rfl, hc⟩ := cells_of (Kd.C_below HF.out.1 (below_alloc (Below.refl _ _) (Obj.cells #[Value.int .u8 0, Value.int .u8 0, Value.int .u8 0, Value.int .u8 0] 54))) (by simpa using h0)
        refine ⟨ad, rfl, fun j v hv => ?_⟩
        rw [List.getElem?_map] at hv
        obtain ⟨x, hx, rfl⟩ := Option.map_eq_some_iff.1 hv
        have hj : j < l.length := (List.getElem?_eq_some_iff.1 hx).1
        rw [hc j hj, List.getD_eq_getElem?_getD, hx]
        rfl
      have HPOS := Aside0.mk hpos
      have HS := Aside0.mk (side_of l (by omega))
      clear hpos
      go_wp2_with (refine wpList_copy_splice rfl (.tmp 27) (.tmp 28) 28 28 rfl 5 Try.underlying28 (by kernel_rfl) _ _ _ _ _ _ rfl rfl wr.heap.size 0 [Value.int .u8 0, Value.int .u8 0, Value.int .u8 0, Value.int .u8 0] 54 (heap_alloc_new wr _) (l.map fun x => Value.int .u8 x) HS.out.1 (fun h0 => ⟨rfl, HPOS.out h0⟩) HS.out.2.1 HS.out.2.2 w.heap.size w (below_alloc HW.out _) hz ?_; intro w1 hg1 hb1; have HB1 := Aside0.mk hb1; clear hb1; obtain ⟨q0, q1, q2, q3⟩ := copied hg1 HP.out; clear hg1)
      with_reducible refine (scrambled_calls p0 p1 p2 p3 b0 b1 b2 b3 _).mono ?_
      rintro e w2 ⟨rfl, hb2⟩
      go_wp2
      go_ret
      refine ⟨?_, below_step HB1.out hb2⟩
      show Ending.returned (Value.int .u32 (Mur.fin3 (Mur.fin2 (Mur.fin1 (Mur.xo (Mur.xo hh (Mur.mix (Mur.word p0 p1 p2 p3))) ((l0.length : Int) % 4294967296)))))) = Ending.returned (Value.int .u32 (Mur.fin3 (Mur.fin2 (Mur.fin1 (Mur.xo (Mur.body l0 a1) ((l0.length : Int) % 4294967296))))))
      rw [HWD.out, ← Mur.body_few l hh (by omega), HF.out.2.2.2.2.2]
end Go.Proofs.Yteeimkafcadinaa.X
