/- What the reference's Murmur computes, of every bytes. -/
import Derived.Test.YteeimkafcadinaaMurmur
namespace Go.Proofs.Yteeimkafcadinaa.X
open Go.RowKit Go.Proofs.Yteeimkafcadinaa.B Go.Proofs.Yteeimkafcadinaa Go.Proofs.YteeimkafcadinaaW.PrintWords Go.Proofs.YteeimkafcadinaaW.PrintLast Go.Proofs.YteeimkafcadinaaW.PrintMore
theorem wrap_at {i : Nat} {n : Nat} (h : i < n) (hn : n ≤ 140737488351232) : wrap64 ((i : Int) + 1) = ((i + 1 : Nat) : Int) := by
  unfold wrap64
  omega
theorem bytes_of_wf {l : List Int} (h : ∀ x ∈ l, (Lit.int .u8 x).wf = true) : Ad.Bytes l := fun c hc => by
  have := bounds_u8 (h c hc)
  omega
theorem some_bind {α β : Type} (a : α) (f : α → Option β) : (some a).bind f = f a := rfl
theorem left_some (x : Int) (hx : Mur.W x) : thermographref04_left.f x 15 = some (Mur.rot15 x) ∧ thermographref04_left.f x 13 = some (Mur.rot13 x) := by
  have hw : ∀ n : Int, 0 ≤ n → n < 2 ^ 32 → IntKind.u32.wrap n = n := fun n h0 h1 => by rw [IntKind.wrap_u32]; omega
  have e3 : wrap64 (32 - 15) = 17 := by decide +kernel
  have e4 : wrap64 (32 - 13) = 19 := by decide +kernel
  have s1 : shl .u32 x 15 = x * 32768 % 4294967296 := by unfold shl; rw [IntKind.wrap_u32]; rfl
  have s2 : shr .u32 x 17 = x / 131072 := by unfold shr; rfl
  have s3 : shl .u32 x 13 = x * 8192 % 4294967296 := by unfold shl; rw [IntKind.wrap_u32]; rfl
  have s4 : shr .u32 x 19 = x / 524288 := by unfold shr; rfl
  unfold Mur.W at hx
  constructor
  · unfold thermographref04_left.f
    rw [e3, if_pos (by omega), if_pos (by omega), s1, s2]
    congr 1
    exact bits_join .u32 32 (by decide) hw 15 _ _ (by omega) (by omega) (by omega) (by omega) (by omega) (by omega)
  · unfold thermographref04_left.f
    rw [e4, if_pos (by omega), if_pos (by omega), s3, s4]
    congr 1
    exact bits_join .u32 32 (by decide) hw 13 _ _ (by omega) (by omega) (by omega) (by omega) (by omega) (by omega)
theorem mixed_some (k : Int) : thermographref04_mixed.f k = some (Mur.mix k) := by
  unfold thermographref04_mixed.f
  rw [(left_some _ (Mur.mod_W _)).1]
  rfl
/-- The shift of byte number j of a word. -/
theorem shl_byte (b : Int) (hb : 0 ≤ b ∧ b < 256) : shl .u32 (b % 4294967296) (wrap64 (8 * 0)) = b ∧ shl .u32 (b % 4294967296) (wrap64 (8 * 1)) = b * 256 ∧ shl .u32 (b % 4294967296) (wrap64 (8 * 2)) = b * 65536 ∧ shl .u32 (b % 4294967296) (wrap64 (8 * 3)) = b * 16777216 := by
  have e : b % 4294967296 = b := by omega
  have e0 : wrap64 (8 * 0) = 0 := by decide +kernel
  have e1 : wrap64 (8 * 1) = 8 := by decide +kernel
  have e2 : wrap64 (8 * 2) = 16 := by decide +kernel
  have e3 : wrap64 (8 * 3) = 24 := by decide +kernel
  rw [e, e0, e1, e2, e3]
  have s0 : shl .u32 b 0 = b * 1 % 4294967296 := by unfold shl; rw [IntKind.wrap_u32]; rfl
  have s1 : shl .u32 b 8 = b * 256 % 4294967296 := by unfold shl; rw [IntKind.wrap_u32]; rfl
  have s2 : shl .u32 b 16 = b * 65536 % 4294967296 := by unfold shl; rw [IntKind.wrap_u32]; rfl
  have s3 : shl .u32 b 24 = b * 16777216 % 4294967296 := by unfold shl; rw [IntKind.wrap_u32]; rfl
  rw [s0, s1, s2, s3]
  omega
theorem or_on (x y : Int) (i : Nat) (hx0 : 0 ≤ x) (hx : x < 2 ^ i) (hx1 : x < 2 ^ 32) (hy0 : 0 ≤ y) (hy : y % 2 ^ i = 0) (hy1 : y < 2 ^ 32) : bits .or .u32 x y = x + y := by
  have hw : ∀ n : Int, 0 ≤ n → n < 2 ^ 32 → IntKind.u32.wrap n = n := fun n h0 h1 => by rw [IntKind.wrap_u32]; omega
  have comm : bits .or .u32 x y = bits .or .u32 y x := by simp only [bits, BitVec.or_comm]
  rw [comm, bits_join .u32 32 (by decide) hw i y x hy0 hy hy1 hx0 hx hx1]
  omega
theorem byte_step (k : Nat) (l : List Int) (hn : l.length ≤ 140737488351232) (h kk : Int) (hh : Mur.W h) (i j : Nat) (hi : i < l.length) (hj : i % 4 = j) (b v : Int) (hb : l.getD i 0 = b) (hv : bits .or .u32 kk (shl .u32 (b % 4294967296) (wrap64 (8 * (j : Int)))) = v) :
    thermographref04_Murmur.l0 (k + 1) l h kk i = if j = 3 then thermographref04_Murmur.l0 k l (Mur.step h v) 0 ((i + 1 : Nat) : Int) else thermographref04_Murmur.l0 k l h v ((i + 1 : Nat) : Int) := by
  have ht : Int.tmod (i : Int) 4 = (j : Int) := by rw [Int.tmod_eq_emod_of_nonneg (by omega)]; omega
  have er : rd l (i : Int) = b := by rw [← hb]; simp [rd]
  have hw : 0 ≤ wrap64 (8 * (j : Int)) := by unfold wrap64; omega
  simp only [thermographref04_Murmur.l0]
  rw [if_pos (by omega), if_pos (by omega), ht, if_pos hw, er, hv, wrap_at hi hn]
  by_cases h3 : j = 3
  · rw [if_pos (by omega), if_pos h3, mixed_some]
    simp only [some_bind]
    have hl : thermographref04_left.f (bits .xor .u32 h (Mur.mix v)) 13 = _ := (left_some _ (Mur.xo_W h (Mur.mix v) hh (Mur.mix_W v))).2
    rw [hl]
    rfl
  · rw [if_neg (by omega), if_neg h3]
theorem end_some (k : Nat) (l : List Int) (h kk : Int) (hk : l.length % 4 = 0 ∨ l.length % 4 ≠ 0) : thermographref04_Murmur.l0 (k + 1) l h kk (l.length : Int) = some (Mur.fin3 (Mur.fin2 (Mur.fin1 (Mur.xo (if l.length % 4 = 0 then h else Mur.xo h (Mur.mix kk)) ((l.length : Int) % 4294967296))))) := by
  simp only [thermographref04_Murmur.l0]
  rw [if_neg (by omega)]
  rcases hk with hk | hk
  · rw [if_pos (by omega), if_pos hk]
    rfl
  · rw [if_neg (by omega), if_neg hk, mixed_some]
    rfl
theorem drop_of {l : List Int} {i : Nat} {a : Int} {m : List Int} (h : l.drop i = a :: m) : i < l.length ∧ l.getD i 0 = a ∧ l.drop (i + 1) = m := by
  have hi : i < l.length := by
    rcases Nat.lt_or_ge i l.length with h' | h'
    · exact h'
    · rw [List.drop_eq_nil_of_le h'] at h; cases h
  rw [Ad.drop_at l i hi] at h
  injection h with h1 h2
  exact ⟨hi, h1, h2⟩
theorem word_le (a b c d : Int) (ha : 0 ≤ a ∧ a < 256) (hb : 0 ≤ b ∧ b < 256) (hc : 0 ≤ c ∧ c < 256) (hd : 0 ≤ d ∧ d < 256) :
    bits .or .u32 0 (shl .u32 (a % 4294967296) (wrap64 (8 * ((0 : Nat) : Int)))) = Mur.word a 0 0 0 ∧ bits .or .u32 (Mur.word a 0 0 0) (shl .u32 (b % 4294967296) (wrap64 (8 * ((1 : Nat) : Int)))) = Mur.word a b 0 0 ∧
    bits .or .u32 (Mur.word a b 0 0) (shl .u32 (c % 4294967296) (wrap64 (8 * ((2 : Nat) : Int)))) = Mur.word a b c 0 ∧ bits .or .u32 (Mur.word a b c 0) (shl .u32 (d % 4294967296) (wrap64 (8 * ((3 : Nat) : Int)))) = Mur.word a b c d := by
  have sa := (shl_byte a ha).1
  have sb := (shl_byte b hb).2.1
  have sc := (shl_byte c hc).2.2.1
  have sd := (shl_byte d hd).2.2.2
  refine ⟨?_, ?_, ?_, ?_⟩
  · rw [show wrap64 (8 * ((0 : Nat) : Int)) = wrap64 (8 * 0) from rfl, sa, or_on 0 a 0 (by omega) (by omega) (by omega) (by omega) (by omega) (by omega)]
    unfold Mur.word; omega
  · rw [show wrap64 (8 * ((1 : Nat) : Int)) = wrap64 (8 * 1) from rfl, sb, or_on _ _ 8 (by unfold Mur.word; omega) (by unfold Mur.word; omega) (by unfold Mur.word; omega) (by omega) (by omega) (by omega)]
    unfold Mur.word; omega
  · rw [show wrap64 (8 * ((2 : Nat) : Int)) = wrap64 (8 * 2) from rfl, sc, or_on _ _ 16 (by unfold Mur.word; omega) (by unfold Mur.word; omega) (by unfold Mur.word; omega) (by omega) (by omega) (by omega)]
    unfold Mur.word; omega
  · rw [show wrap64 (8 * ((3 : Nat) : Int)) = wrap64 (8 * 3) from rfl, sd, or_on _ _ 24 (by unfold Mur.word; omega) (by unfold Mur.word; omega) (by unfold Mur.word; omega) (by omega) (by omega) (by omega)]
    unfold Mur.word; omega
theorem ref_few (k : Nat) (l : List Int) (hb : Ad.Bytes l) (hn : l.length ≤ 140737488351232) (h : Int) (hh : Mur.W h) (i : Nat) (hi : i % 4 = 0) (m : List Int) (hm : l.drop i = m) (h4 : m.length < 4) (hk : m.length < k) (hil : i ≤ l.length) :
    thermographref04_Murmur.l0 k l h 0 i = some (Mur.fin3 (Mur.fin2 (Mur.fin1 (Mur.xo (Mur.body m h) ((l.length : Int) % 4294967296))))) := by
  have hlen : l.length = i + m.length := by rw [← hm, List.length_drop]; omega
  have hbm : Ad.Bytes m := by rw [← hm]; exact Ad.bytes_drop hb i
  rw [Mur.body_few m h h4]
  match m, hm, h4, hk, hlen, hbm with
  | [], hm, _, hk, hlen, _ =>
    obtain ⟨k, rfl⟩ : ∃ q, k = q + 1 := ⟨k - 1, by simp at hk; omega⟩
    have e : i = l.length := by simpa using hlen.symm
    subst e
    rw [end_some k l h 0 (.inl hi), if_pos hi, show Mur.mix (Mur.rest []) = 0 from by decide +kernel, Mur.xo_zero h hh]
  | [a], hm, _, hk, hlen, hbm =>
    obtain ⟨k, rfl⟩ : ∃ q, k = q + 2 := ⟨k - 2, by simp at hk; omega⟩
    obtain ⟨i0, g0, d0⟩ := drop_of hm
    have W := word_le a 0 0 0 (hbm a (by simp)) (by omega) (by omega) (by omega)
    rw [byte_step (k + 1) l hn h 0 hh i 0 i0 hi a _ g0 W.1, if_neg (by decide), show i + 1 = l.length from hlen.symm, end_some k l h _ (.inr (by rw [hlen]; simp; omega)), if_neg (by rw [hlen]; simp; omega)]
    rfl
  | [a, b], hm, _, hk, hlen, hbm =>
    obtain ⟨k, rfl⟩ : ∃ q, k = q + 3 := ⟨k - 3, by simp at hk; omega⟩
    obtain ⟨i0, g0, d0⟩ := drop_of hm
    obtain ⟨i1, g1, d1⟩ := drop_of d0
    have W := word_le a b 0 0 (hbm a (by simp)) (hbm b (by simp)) (by omega) (by omega)
    rw [byte_step (k + 2) l hn h 0 hh i 0 i0 hi a _ g0 W.1, if_neg (by decide), byte_step (k + 1) l hn h _ hh (i + 1) 1 i1 (by omega) b _ g1 W.2.1, if_neg (by decide),
      show i + 1 + 1 = l.length from hlen.symm, end_some k l h _ (.inr (by rw [hlen]; simp; omega)), if_neg (by rw [hlen]; simp; omega)]
    rfl
  | [a, b, c], hm, _, hk, hlen, hbm =>
    obtain ⟨k, rfl⟩ : ∃ q, k = q + 4 := ⟨k - 4, by simp at hk; omega⟩
    obtain ⟨i0, g0, d0⟩ := drop_of hm
    obtain ⟨i1, g1, d1⟩ := drop_of d0
    obtain ⟨i2, g2, d2⟩ := drop_of d1
    have W := word_le a b c 0 (hbm a (by simp)) (hbm b (by simp)) (hbm c (by simp)) (by omega)
    rw [byte_step (k + 3) l hn h 0 hh i 0 i0 hi a _ g0 W.1, if_neg (by decide), byte_step (k + 2) l hn h _ hh (i + 1) 1 i1 (by omega) b _ g1 W.2.1, if_neg (by decide),
      byte_step (k + 1) l hn h _ hh (i + 1 + 1) 2 i2 (by omega) c _ g2 W.2.2.1, if_neg (by decide),
      show i + 1 + 1 + 1 = l.length from hlen.symm, end_some k l h _ (.inr (by rw [hlen]; simp; omega)), if_neg (by rw [hlen]; simp; omega)]
    rfl
theorem ref_all (n : Nat) : ∀ (k : Nat) (l : List Int) (h : Int) (i : Nat) (m : List Int), Ad.Bytes l → l.length ≤ 140737488351232 → Mur.W h → i % 4 = 0 → l.drop i = m → m.length ≤ n → m.length < k → i ≤ l.length →
    thermographref04_Murmur.l0 k l h 0 i = some (Mur.fin3 (Mur.fin2 (Mur.fin1 (Mur.xo (Mur.body m h) ((l.length : Int) % 4294967296))))) := by
  induction n with
  | zero =>
    intro k l h i m hb hn hh hi hm hmn hk hil
    exact ref_few k l hb hn h hh i hi m hm (by omega) hk hil
  | succ n ih =>
    intro k l h i m hb hn hh hi hm hmn hk hil
    by_cases h4 : m.length < 4
    · exact ref_few k l hb hn h hh i hi m hm h4 hk hil
    · obtain ⟨a, b, c, d, m', rfl⟩ := Mur.four_of m (by omega)
      have hbm : Ad.Bytes (a :: b :: c :: d :: m') := by rw [← hm]; exact Ad.bytes_drop hb i
      simp only [List.length_cons] at hk hmn
      obtain ⟨k, rfl⟩ : ∃ q, k = q + 4 := ⟨k - 4, by omega⟩
      obtain ⟨i0, g0, d0⟩ := drop_of hm
      obtain ⟨i1, g1, d1⟩ := drop_of d0
      obtain ⟨i2, g2, d2⟩ := drop_of d1
      obtain ⟨i3, g3, d3⟩ := drop_of d2
      have W := word_le a b c d (hbm a (by simp)) (hbm b (by simp)) (hbm c (by simp)) (hbm d (by simp))
      rw [byte_step (k + 3) l hn h 0 hh i 0 i0 hi a _ g0 W.1, if_neg (by decide), byte_step (k + 2) l hn h _ hh (i + 1) 1 i1 (by omega) b _ g1 W.2.1, if_neg (by decide),
        byte_step (k + 1) l hn h _ hh (i + 1 + 1) 2 i2 (by omega) c _ g2 W.2.2.1, if_neg (by decide), byte_step k l hn h _ hh (i + 1 + 1 + 1) 3 i3 (by omega) d _ g3 W.2.2.2, if_pos rfl, Mur.body_four]
      exact ih k l _ (i + 1 + 1 + 1 + 1) m' hb hn (Mur.step_W _ _) (by omega) d3 (by omega) (by omega) (by omega)
theorem ref_murmur (l : List Int) (hb : Ad.Bytes l) (hn : l.length ≤ 140737488351232) (s : Int) (hs : Mur.W s) (k : Nat) (hk : l.length < k) : thermographref04_Murmur.f k l s = some (Mur.murmur l s) :=
  ref_all l.length k l s 0 l hb hn hs rfl (by simp) (Nat.le_refl _) hk (Nat.zero_le _)

def thermographref04_Murmur.f (l0 : List Int) (a1 : Int) : Option Int := digest_Murmur.f l0 a1
theorem thermographref04_Murmur.calls (A0 : Option Addr) (c0 : Nat) (l0 : List Int) (a1 : Int) (r : Int) (w : World) (hr0 : Kd.C (Kd.int .u8) w A0 l0.length l0) (hc0 : l0.length ≤ c0) (h : thermographref04_Murmur.f l0 a1 = some r) :
    Calls Try.prog 21 #[.slice A0 l0.length c0, .int .u32 a1] w fun e w' => e = .returned (.int .u32 r) ∧ Drawn0 w w' := by
  obtain ⟨hb, hs, hn, rfl⟩ := digest_Murmur.known h
  exact B.thermographref04_Murmur.calls (l0.length + 1) A0 c0 l0 a1 _ w hr0 hc0 (ref_murmur l0 hb hn a1 hs _ (by omega))
end Go.Proofs.Yteeimkafcadinaa.X
