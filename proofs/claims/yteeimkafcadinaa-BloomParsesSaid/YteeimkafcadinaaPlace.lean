/- The reference's place of a name, its Has; the program's places. -/
import Derived.Test.YteeimkafcadinaaSmall
namespace Go.Proofs.Yteeimkafcadinaa.X
open Go.RowKit Go.Sort Go.Proofs.Yteeimkafcadinaa.B Go.Proofs.Yteeimkafcadinaa Go.Proofs.YteeimkafcadinaaW.PrintWords Go.Proofs.YteeimkafcadinaaW.PrintLast Go.Proofs.YteeimkafcadinaaW.PrintMore

/-- Where a name's bit k lies among n bits. -/
def pl (s : ByteArray) (k : Int) (n : Int) : Int := Mur.murmur (bytesOf s) k % n
theorem pl_range (s : ByteArray) (k n : Int) (hn : 0 < n) : 0 ≤ pl s k n ∧ pl s k n < n := ⟨Int.emod_nonneg _ (by omega), Int.emod_lt_of_pos _ hn⟩
set_option maxHeartbeats 1000000 in
theorem place_calls (s : ByteArray) (k n : Int) (w : World) (hs : s.size ≤ 140737488351232) (hk : 0 ≤ k ∧ k < 4) (hn : 0 < n ∧ n ≤ 100000) :
    Calls Try.prog 18 #[.string s, .int .i64 k, .int .i64 n] w fun e w' => e = .returned (.int .i64 (pl s k n)) ∧ Below w.heap.size w w' := by
  unfold pl
  obtain ⟨cap, W1, hrun, hcap, hb, hC⟩ := conv_string w s hs
  have HCAP := Aside0.mk hcap
  have HB := Aside0.mk hb
  have HC := Aside0.mk hC
  have hm := Mur.murmur_W (bytesOf s) k
  have HF := Aside0.mk (show thermographref04_Murmur.f (bytesOf s) k = some (Mur.murmur (bytesOf s) k) from murmur_some s k ⟨by omega, by omega⟩ hs)
  clear hcap hb hC
  obtain ⟨m0, m1⟩ := hm
  obtain ⟨k0, k1⟩ := hk
  obtain ⟨n0, n1⟩ := hn
  have hk2 : k < 4294967296 := by omega
  have hne : ¬ n = 0 := by omega
  go_enter Try.func18, Try.ntmps18
  go_wp2_with fail
  with_reducible refine (thermographref04_Murmur.calls _ cap (bytesOf s) k _ W1 HC.out HCAP.out HF.out).mono ?_
  rintro e w1 ⟨rfl, hb1⟩
  go_wp2
  go_ret
  exact ⟨rfl, below_step HB.out hb1.below⟩
/-- Is bit p of the byte x (p: the bit's number in the whole row) set? -/
def tb (x p : Int) : Bool := !(bits .and .u8 (x / 2 ^ (p % 8).toNat) 1 == 0)
def byteAt (bs : List Int) (p : Int) : Int := bs.getD (p / 8).toNat 0
theorem byteAt_of {bs : List Int} {p x : Int} (h : bs[(p / 8).toNat]? = some x) : byteAt bs p = x := by simp [byteAt, List.getD_eq_getElem?_getD, h]
def hasK (bs : List Int) (s : ByteArray) (k : Nat) : Bool := tb (byteAt bs (pl s (k : Int) (8 * (bs.length : Int)))) (pl s (k : Int) (8 * (bs.length : Int)))
/-- Are all bits of a name set? -/
def hasB (bs : List Int) (s : ByteArray) : Bool := (List.range 4).all (hasK bs s)
theorem hasB_false {bs : List Int} {s : ByteArray} {k : Nat} (hk : k < 4) (h : hasK bs s k = false) : hasB bs s = false := by
  unfold hasB
  rw [List.all_eq_false]
  exact ⟨k, List.mem_range.2 hk, by rw [h]; decide⟩
theorem hasB_true {bs : List Int} {s : ByteArray} (h : ∀ k, k < 4 → hasK bs s k = true) : hasB bs s = true := by
  unfold hasB
  rw [List.all_eq_true]
  exact fun k hk => h k (List.mem_range.1 hk)
set_option maxHeartbeats 2000000 in
theorem refhas_calls {g gB c : Nat} {bs : List Int} (s : ByteArray) (w : World) (hs : s.size ≤ 140737488351232) (hF : Flt 40 w g gB c bs) :
    Calls Try.prog 14 #[.pointer (some ⟨g, 0, none⟩), .string s] w fun e w' => e = .returned (.bool (hasB bs s)) ∧ Below w.heap.size w w' := by
  have HF := Aside0.mk hF
  have h8 := hF.ge
  have hle := hF.le
  have hcap := hF.row.le
  have HS := Aside0.mk hs
  clear hF hs
  go_enter Try.func14, Try.ntmps14
  go_wp2
  go_loopw [5] (fun v5 wr => ∃ k : Nat, v5 = .int .i64 k ∧ k ≤ 4 ∧ Aside0 (∀ j, j < k → hasK bs s j = true) ∧ Aside0 (Below w.heap.size w wr)) (fun v5 _ => 4 - (intOf v5).toNat)
  case atStart => exact ⟨0, rfl, by omega, ⟨fun j hj => absurd hj (Nat.not_lt_zero j)⟩, ⟨Below.refl _ _⟩⟩
  case round =>
    obtain ⟨k, rfl, hk, HK, HB⟩ := hrel
    by_cases hlt : k < 4
    · have t1 : decide ((k : Int) < 4) = true := decide_eq_true (by omega)
      have t2 : decide (k < 4) = true := decide_eq_true hlt
      have HF1 := Aside0.mk (HF.out.below HB.out)
      have hc := HF1.out.cell
      have h80 : (0 : Int) ≤ 8 * (bs.length : Int) := by omega
      have hpr := pl_range s (k : Int) (8 * (bs.length : Int)) (by omega)
      have HP := Aside0.mk (fun W => place_calls s (k : Int) (8 * (bs.length : Int)) W HS.out ⟨by omega, by omega⟩ ⟨by omega, by omega⟩)
      have HH := Aside0.mk (show hasK bs s k = tb (byteAt bs (pl s (k : Int) (8 * (bs.length : Int)))) (pl s (k : Int) (8 * (bs.length : Int))) from rfl)
      go_wp2_with fail
      refine (HP.out _).mono ?_
      rintro e w1 ⟨rfl, hb1⟩
      have HB2 := Aside0.mk (below_step HB.out hb1)
      have HF2 := Aside0.mk (HF1.out.below hb1)
      have hc2 := HF2.out.cell
      generalize pl s (k : Int) (8 * (bs.length : Int)) = p at hpr HP HH ⊢
      obtain ⟨p0, p1⟩ := hpr
      have q0 : 0 ≤ p / 8 := by omega
      have q1 : p / 8 < (bs.length : Int) := by omega
      obtain ⟨x, hx⟩ : ∃ x, bs[(p / 8).toNat]? = some x := ⟨_, List.getElem?_eq_getElem (by omega)⟩
      have hcx := HF2.out.row.cell hx
      have HX := Aside0.mk (show hasK bs s k = tb x p by rw [HH.out, byteAt_of hx])
      clear hx hb1
      cases htb : tb x p with
      | true =>
        have t3 : (bits .and .u8 (x / 2 ^ (p % 8).toNat) 1 == 0) = false := by unfold tb at htb; simpa using htb
        have HKK := Aside0.mk (show ∀ j, j < k + 1 → hasK bs s j = true from fun j hj => by
          rcases Nat.lt_or_eq_of_le (Nat.le_of_lt_succ hj) with h | rfl
          · exact HK.out j h
          · rw [HX.out, htb])
        clear htb
        go_wp2
        go_roundw
        case rel => exact ⟨k + 1, by go_num, by omega, HKK, HB2⟩
        case measure => simp [intOf]; omega
      | false =>
        have t3 : (bits .and .u8 (x / 2 ^ (p % 8).toNat) 1 == 0) = true := by unfold tb at htb; simpa using htb
        have HE := Aside0.mk (hasB_false hlt (show hasK bs s k = false by rw [HX.out, htb]))
        clear htb
        go_wp2
        go_ret
        exact ⟨by rw [HE.out]; rfl, HB2.out⟩
    · have t1 : decide ((k : Int) < 4) = false := decide_eq_false (by omega)
      have t2 : decide (k < 4) = false := decide_eq_false hlt
      have HE := Aside0.mk (hasB_true (bs := bs) (s := s) fun j hj => HK.out j (by omega))
      go_wp2
      go_ret
      exact ⟨by rw [HE.out]; rfl, HB.out⟩
end Go.Proofs.Yteeimkafcadinaa.X
