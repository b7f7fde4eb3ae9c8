/- The bits of a row of bytes: which are set, and what setting one does. -/
import Derived.Test.YteeimkafcadinaaPlace
namespace Go.Proofs.Yteeimkafcadinaa.X
open Go.RowKit Go.Proofs.Yteeimkafcadinaa

/-- Bit p set in the byte x in which it lies. -/
def orb (x p : Int) : Int := bits .or .u8 x (2 ^ (p % 8).toNat % 256)
def putB (bs : List Int) (p : Int) : List Int := bs.set (p / 8).toNat (orb (byteAt bs p) p)
def putK (s : ByteArray) (bs : List Int) (k : Nat) : List Int := putB bs (pl s (k : Int) (8 * (bs.length : Int)))
def putN (bs : List Int) (s : ByteArray) : List Int := (List.range 4).foldl (putK s) bs
/-- How many bytes a filter of that many names has. -/
def sizeOfF (n : Nat) : Nat := if 8 < 2 * n then 2 * n else 8
def bloom (ids : List ByteArray) : List Int := ids.foldl putN (List.replicate (sizeOfF ids.length) 0)

theorem mod8 (p : Int) : (p % 8).toNat < 8 := by omega
theorem pow8 {m : Nat} (h : m < 8) : (2 : Nat) ^ m < 256 := by
  have := Nat.pow_lt_pow_right (a := 2) (by decide) h
  exact this
theorem pow_int {m : Nat} (h : m < 8) : ((2 : Int) ^ m % 256) = ((2 ^ m : Nat) : Int) := by
  have h1 := pow8 h
  rw [show (2 : Int) ^ m = ((2 ^ m : Nat) : Int) by simp]
  generalize 2 ^ m = n at h1 ⊢
  omega
def Byte (x : Int) : Prop := 0 ≤ x ∧ x < 256
theorem orb_nat {x : Int} (hx : Byte x) (p : Int) : orb x p = ((x.toNat ||| 2 ^ (p % 8).toNat : Nat) : Int) := by
  have h1 := pow8 (mod8 p)
  unfold orb
  rw [pow_int (mod8 p)]
  generalize 2 ^ (p % 8).toNat = n at h1 ⊢
  rw [u8_or x _ hx.1 hx.2 (by omega) (by omega), Int.toNat_natCast]
theorem orb_range {x : Int} (hx : Byte x) (p : Int) : Byte (orb x p) := by
  rw [orb_nat hx p]
  have h1 : x.toNat < 2 ^ 8 := by have := hx.1; have := hx.2; omega
  have h2 : 2 ^ (p % 8).toNat < 2 ^ 8 := pow8 (mod8 p)
  have := Nat.or_lt_two_pow h1 h2
  exact ⟨by omega, by omega⟩
theorem tb_nat {x : Int} (hx : Byte x) (p : Int) : tb x p = x.toNat.testBit (p % 8).toNat := by
  obtain ⟨a, rfl⟩ := Int.eq_ofNat_of_zero_le hx.1
  have ha := hx.2
  have hd : (a : Int) / 2 ^ (p % 8).toNat = ((a / 2 ^ (p % 8).toNat : Nat) : Int) := by simp
  have hle : a / 2 ^ (p % 8).toNat ≤ a := Nat.div_le_self _ _
  unfold tb
  rw [hd, Nat.testBit, Nat.shiftRight_eq_div_pow, Int.toNat_natCast]
  generalize a / 2 ^ (p % 8).toNat = d at hle ⊢
  rw [u8_and _ _ (by omega) (by omega) (by decide) (by decide), Int.toNat_natCast, show (Int.toNat 1) = 1 from rfl, Nat.and_comm]
  generalize 1 &&& d = z
  rw [Bool.eq_iff_iff]
  simp
theorem and_pow_zero (x m : Nat) : (x &&& 2 ^ m = 0) ↔ x.testBit m = false := by
  constructor
  · intro h
    have := congrArg (fun z => Nat.testBit z m) h
    simpa [Nat.testBit_and, Nat.testBit_two_pow] using this
  · intro h
    apply Nat.eq_of_testBit_eq
    intro j
    rw [Nat.zero_testBit, Nat.testBit_and, Nat.testBit_two_pow]
    by_cases e : m = j
    · rw [← e, h]; rfl
    · simp [e]
/-- The program's own test of a bit. -/
theorem tb_own {x : Int} (hx : Byte x) (p : Int) : (bits .and .u8 x (2 ^ (p % 8).toNat % 256) == 0) = !tb x p := by
  have h1 := pow8 (mod8 p)
  have h2 := and_pow_zero x.toNat (p % 8).toNat
  rw [tb_nat hx, pow_int (mod8 p)]
  generalize 2 ^ (p % 8).toNat = n at h1 h2 ⊢
  rw [u8_and x _ hx.1 hx.2 (by omega) (by omega), Int.toNat_natCast]
  cases h : x.toNat.testBit (p % 8).toNat with
  | true =>
    have h3 : ¬ x.toNat &&& n = 0 := fun e => by rw [h2.1 e] at h; cases h
    rw [beq_eq_false_iff_ne.2 (by omega)]
    rfl
  | false => rw [h2.2 h]; rfl

/-- Is bit q of the row set? -/
def bitOf (bs : List Int) (q : Int) : Bool := (byteAt bs q).toNat.testBit (q % 8).toNat
theorem byteAt_byte {bs : List Int} (h : Ad.Bytes bs) (q : Int) : Byte (byteAt bs q) := by
  unfold byteAt
  rw [List.getD_eq_getElem?_getD]
  cases e : bs[(q / 8).toNat]? with
  | none => exact ⟨by simp, by simp⟩
  | some x => exact h x (List.mem_of_getElem? e)
theorem hasK_bit {bs : List Int} (h : Ad.Bytes bs) (s : ByteArray) (k : Nat) : hasK bs s k = bitOf bs (pl s (k : Int) (8 * (bs.length : Int))) := tb_nat (byteAt_byte h _) _
theorem putB_len (bs : List Int) (p : Int) : (putB bs p).length = bs.length := List.length_set
theorem putB_bytes {bs : List Int} (h : Ad.Bytes bs) (p : Int) : Ad.Bytes (putB bs p) := by
  have := orb_range (byteAt_byte h p) p
  exact Ad.bytes_set h _ _ this.1 this.2
/-- In range: one of the row's bits. -/
def InR (bs : List Int) (q : Int) : Prop := 0 ≤ q ∧ q < 8 * (bs.length : Int)
theorem putB_bit {bs : List Int} (h : Ad.Bytes bs) {p q : Int} (hp : InR bs p) (hq : InR bs q) : bitOf (putB bs p) q = (bitOf bs q || decide (q = p)) := by
  unfold InR at hp hq
  have hset : byteAt (putB bs p) q = if (p / 8).toNat = (q / 8).toNat then orb (byteAt bs p) p else byteAt bs q := by
    show (bs.set (p / 8).toNat (orb (byteAt bs p) p)).getD (q / 8).toNat 0 = _
    rw [List.getD_eq_getElem?_getD, List.getElem?_set]
    by_cases e : (p / 8).toNat = (q / 8).toNat
    · rw [if_pos e, if_pos e, if_pos (by omega)]; rfl
    · rw [if_neg e, if_neg e]
      exact (List.getD_eq_getElem?_getD).symm
  unfold bitOf
  rw [hset]
  by_cases e : (p / 8).toNat = (q / 8).toNat
  · rw [if_pos e, orb_nat (byteAt_byte h p) p, Int.toNat_natCast, Nat.testBit_or, Nat.testBit_two_pow]
    have e2 : byteAt bs p = byteAt bs q := by unfold byteAt; rw [e]
    rw [e2]
    congr 1
    rw [decide_eq_decide]
    omega
  · rw [if_neg e]
    have : ¬ q = p := fun h => e (by rw [h])
    simp [this]
/-- Rows as long as each other, with the same bits, are the same. -/
theorem bits_ext {a b : List Int} (ha : Ad.Bytes a) (hb : Ad.Bytes b) (hl : a.length = b.length) (h : ∀ q, InR a q → bitOf a q = bitOf b q) : a = b := by
  apply List.ext_getElem?
  intro i
  rcases Nat.lt_or_ge i a.length with hi | hi
  · obtain ⟨x, hx⟩ : ∃ x, a[i]? = some x := ⟨_, List.getElem?_eq_getElem hi⟩
    obtain ⟨y, hy⟩ : ∃ y, b[i]? = some y := ⟨_, List.getElem?_eq_getElem (by omega)⟩
    rw [hx, hy]
    have bx := ha x (List.mem_of_getElem? hx)
    have bY := hb y (List.mem_of_getElem? hy)
    have : x.toNat = y.toNat := by
      apply Nat.eq_of_testBit_eq
      intro m
      rcases Nat.lt_or_ge m 8 with hm | hm
      · have h1 := h (8 * (i : Int) + (m : Int)) ⟨by omega, by omega⟩
        have e1 : ((8 * (i : Int) + (m : Int)) / 8).toNat = i := by omega
        have e2 : ((8 * (i : Int) + (m : Int)) % 8).toNat = m := by omega
        unfold bitOf byteAt at h1
        rw [e1, e2, List.getD_eq_getElem?_getD, List.getD_eq_getElem?_getD, hx, hy] at h1
        exact h1
      · have hb : ∀ z : Int, 0 ≤ z → z < 256 → z.toNat.testBit m = false := fun z h0 h1 => by
          apply Nat.testBit_lt_two_pow
          have : 2 ^ 8 ≤ 2 ^ m := Nat.pow_le_pow_right (by decide) hm
          omega
        rw [hb x bx.1 bx.2, hb y bY.1 bY.2]
    congr 1
    omega
  · rw [List.getElem?_eq_none hi, List.getElem?_eq_none (by omega)]

theorem putK_len (s : ByteArray) (bs : List Int) (k : Nat) : (putK s bs k).length = bs.length := putB_len _ _
theorem putK_bytes {bs : List Int} (h : Ad.Bytes bs) (s : ByteArray) (k : Nat) : Ad.Bytes (putK s bs k) := putB_bytes h _
theorem foldK {bs : List Int} (h : Ad.Bytes bs) (h0 : 0 < bs.length) (s : ByteArray) (ks : List Nat) : Ad.Bytes (ks.foldl (putK s) bs) ∧ (ks.foldl (putK s) bs).length = bs.length ∧
    ∀ q, InR bs q → bitOf (ks.foldl (putK s) bs) q = (bitOf bs q || ks.any fun k => decide (q = pl s (k : Int) (8 * (bs.length : Int)))) := by
  induction ks generalizing bs with
  | nil => exact ⟨h, rfl, fun q _ => by simp⟩
  | cons k ks ih =>
    have hb := putK_bytes h s k
    have hl := putK_len s bs k
    obtain ⟨i1, i2, i3⟩ := ih hb (by omega)
    refine ⟨i1, i2.trans hl, fun q hq => ?_⟩
    have hr := pl_range s (k : Int) (8 * (bs.length : Int)) (by omega)
    rw [List.foldl_cons, i3 q (by unfold InR at *; rw [hl]; exact hq), hl, List.any_cons]
    rw [show bitOf (putK s bs k) q = (bitOf bs q || decide (q = pl s (k : Int) (8 * (bs.length : Int)))) from putB_bit h ⟨hr.1, hr.2⟩ hq, Bool.or_assoc]
/-- The bits of a name among n. -/
def nameBit (s : ByteArray) (n q : Int) : Bool := (List.range 4).any fun k => decide (q = pl s (k : Int) n)
theorem foldN {bs : List Int} (h : Ad.Bytes bs) (h0 : 0 < bs.length) (ids : List ByteArray) : Ad.Bytes (ids.foldl putN bs) ∧ (ids.foldl putN bs).length = bs.length ∧
    ∀ q, InR bs q → bitOf (ids.foldl putN bs) q = (bitOf bs q || ids.any fun s => nameBit s (8 * (bs.length : Int)) q) := by
  induction ids generalizing bs with
  | nil => exact ⟨h, rfl, fun q _ => by simp⟩
  | cons s ids ih =>
    obtain ⟨j1, j2, j3⟩ := foldK h h0 s (List.range 4)
    obtain ⟨i1, i2, i3⟩ := ih (bs := putN bs s) j1 (by unfold putN; omega)
    refine ⟨i1, i2.trans j2, fun q hq => ?_⟩
    have e2 : (putN bs s).length = bs.length := j2
    rw [List.foldl_cons, i3 q (by unfold InR at *; rw [e2]; exact hq), e2, List.any_cons, show bitOf (putN bs s) q = _ from j3 q hq, Bool.or_assoc]
    rfl
theorem zeros_bytes (n : Nat) : Ad.Bytes (List.replicate n 0) := fun c hc => by rw [List.eq_of_mem_replicate hc]; omega
theorem zeros_bit (n : Nat) (q : Int) : bitOf (List.replicate n 0) q = false := by
  have : byteAt (List.replicate n 0) q = 0 := by
    unfold byteAt
    rw [List.getD_eq_getElem?_getD, List.getElem?_replicate]
    split <;> rfl
  unfold bitOf
  rw [this]
  simp
theorem sizeOfF_ge (n : Nat) : 8 ≤ sizeOfF n := by unfold sizeOfF; split <;> omega
theorem sizeOfF_le {n : Nat} (h : n ≤ 2048) : sizeOfF n ≤ 4096 := by unfold sizeOfF; split <;> omega
theorem bloom_is (ids : List ByteArray) : Ad.Bytes (bloom ids) ∧ (bloom ids).length = sizeOfF ids.length ∧ ∀ q, 0 ≤ q → q < 8 * (sizeOfF ids.length : Int) → bitOf (bloom ids) q = ids.any fun s => nameBit s (8 * (sizeOfF ids.length : Int)) q := by
  have hz := sizeOfF_ge ids.length
  obtain ⟨h1, h2, h3⟩ := foldN (zeros_bytes (sizeOfF ids.length)) (by simp; omega) ids
  rw [List.length_replicate] at h2 h3
  refine ⟨h1, h2, fun q q0 q1 => ?_⟩
  rw [show bitOf (bloom ids) q = _ from h3 q ⟨q0, by rw [List.length_replicate]; exact q1⟩, zeros_bit, Bool.false_or]
theorem hasB_iff {bs : List Int} (h : Ad.Bytes bs) (s : ByteArray) : hasB bs s = true ↔ ∀ k : Nat, k < 4 → bitOf bs (pl s (k : Int) (8 * (bs.length : Int))) = true := by
  unfold hasB
  rw [List.all_eq_true]
  constructor
  · intro h1 k hk; rw [← hasK_bit h]; exact h1 k (List.mem_range.2 hk)
  · intro h1 k hk; rw [hasK_bit h]; exact h1 k (List.mem_range.1 hk)
/-- A filter says of each name that it was built of that it is in it. -/
theorem bloom_has {ids : List ByteArray} {s : ByteArray} (hs : s ∈ ids) : hasB (bloom ids) s = true := by
  obtain ⟨h1, h2, h3⟩ := bloom_is ids
  have hz := sizeOfF_ge ids.length
  rw [hasB_iff h1]
  intro k hk
  rw [h2]
  have hr := pl_range s (k : Int) (8 * (sizeOfF ids.length : Int)) (by omega)
  rw [h3 _ hr.1 hr.2, List.any_eq_true]
  refine ⟨s, hs, ?_⟩
  unfold nameBit
  rw [List.any_eq_true]
  exact ⟨k, List.mem_range.2 hk, by simp⟩
/-- In whatever order names stand, a filter has the same bits. -/
theorem bloom_perm {ids ids' : List ByteArray} (hl : ids.length = ids'.length) (h : ∀ s, s ∈ ids ↔ s ∈ ids') : bloom ids = bloom ids' := by
  obtain ⟨h1, h2, h3⟩ := bloom_is ids
  obtain ⟨k1, k2, k3⟩ := bloom_is ids'
  refine bits_ext h1 k1 (by rw [h2, k2, hl]) fun q hq => ?_
  unfold InR at hq
  rw [h2] at hq
  rw [h3 q hq.1 hq.2, k3 q hq.1 (by rw [← hl]; exact hq.2), hl, Bool.eq_iff_iff, List.any_eq_true, List.any_eq_true]
  constructor
  · rintro ⟨s, hs, e⟩; exact ⟨s, (h s).1 hs, e⟩
  · rintro ⟨s, hs, e⟩; exact ⟨s, (h s).2 hs, e⟩
theorem bloom_none (s : ByteArray) : hasB (bloom []) s = false := by
  obtain ⟨h1, h2, h3⟩ := bloom_is []
  refine hasB_false (k := 0) (by decide) ?_
  rw [hasK_bit h1, h2]
  have hr := pl_range s ((0 : Nat) : Int) (8 * (sizeOfF ([] : List ByteArray).length : Int)) (by decide)
  rw [h3 _ hr.1 hr.2]
  rfl
/-- Of more names no fewer bits are set, if there are as many bits. -/
theorem bloom_more {ids more : List ByteArray} (hz : sizeOfF ids.length = sizeOfF (ids ++ more).length) {i : Nat} {x y : Int} (hx : (bloom ids)[i]? = some x) (hy : (bloom (ids ++ more))[i]? = some y) : bits .andNot .u8 x y = 0 := by
  obtain ⟨h1, h2, h3⟩ := bloom_is ids
  obtain ⟨k1, k2, k3⟩ := bloom_is (ids ++ more)
  have bx := h1 x (List.mem_of_getElem? hx)
  have bY := k1 y (List.mem_of_getElem? hy)
  have hi := (List.getElem?_eq_some_iff.1 hx).1
  rw [u8_andNot x y bx.1 bx.2 bY.1 bY.2]
  have : x.toNat &&& (255 - y.toNat) = 0 := by
    apply Nat.eq_of_testBit_eq
    intro m
    rw [Nat.zero_testBit, Nat.testBit_and]
    rcases Nat.lt_or_ge m 8 with hm | hm
    · have e1 : ((8 * (i : Int) + (m : Int)) / 8).toNat = i := by omega
      have e2 : ((8 * (i : Int) + (m : Int)) % 8).toNat = m := by omega
      have a1 := h3 (8 * (i : Int) + (m : Int)) (by omega) (by rw [← h2]; omega)
      have a2 := k3 (8 * (i : Int) + (m : Int)) (by omega) (by rw [← hz, ← h2]; omega)
      unfold bitOf byteAt at a1 a2
      rw [e1, e2, List.getD_eq_getElem?_getD, hx] at a1
      rw [e1, e2, List.getD_eq_getElem?_getD, hy, ← hz, List.any_append] at a2
      simp only [Option.getD_some] at a1 a2
      rw [← a1] at a2
      cases hxm : x.toNat.testBit m with
      | false => rfl
      | true =>
        rw [hxm, Bool.true_or] at a2
        have hlt : y.toNat < 2 ^ 8 := by omega
        have := Nat.testBit_two_pow_sub_succ hlt m
        rw [show 2 ^ 8 - (y.toNat + 1) = 255 - y.toNat by omega] at this
        rw [this, a2]
        simp
    · have : x.toNat.testBit m = false := by
        apply Nat.testBit_lt_two_pow
        have : 2 ^ 8 ≤ 2 ^ m := Nat.pow_le_pow_right (by decide) hm
        omega
      rw [this, Bool.false_and]
  rw [this]
  rfl
end Go.Proofs.Yteeimkafcadinaa.X
