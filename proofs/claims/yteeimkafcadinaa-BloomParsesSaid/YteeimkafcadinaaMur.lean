/- Plain facts on Murmur's sum: its steps on whole numbers, and that each can be undone. -/
import Derived.Test.YteeimkafcadinaaAd
import Derived.Laws.BitsAllLaws
namespace Go.Proofs.Yteeimkafcadinaa.Mur
open Go.Proofs.Yteeimkafcadinaa

def xo (a b : Int) : Int := bits .xor .u32 a b
def rot15 (x : Int) : Int := (x * 32768) % 4294967296 + x / 131072
def rot13 (x : Int) : Int := (x * 8192) % 4294967296 + x / 524288
def word (a b c d : Int) : Int := a + b * 256 + c * 65536 + d * 16777216
def mix (k : Int) : Int := rot15 (k * 3432918353 % 4294967296) * 461845907 % 4294967296
def step (h k : Int) : Int := (rot13 (xo h (mix k)) * 5 % 4294967296 + 3864292196) % 4294967296
def fin1 (h : Int) : Int := xo h (h / 65536) * 2246822507 % 4294967296
def fin2 (h : Int) : Int := xo h (h / 8192) * 3266489909 % 4294967296
def fin3 (h : Int) : Int := xo h (h / 65536)
def rest : List Int → Int
  | [] => 0
  | [a] => word a 0 0 0
  | [a, b] => word a b 0 0
  | a :: b :: c :: _ => word a b c 0
def body : List Int → Int → Int
  | a :: b :: c :: d :: l, h => body l (step h (word a b c d))
  | l, h => xo h (mix (rest l))
def murmur (l : List Int) (seed : Int) : Int := fin3 (fin2 (fin1 (xo (body l seed) ((l.length : Int) % 4294967296))))

def W (x : Int) : Prop := 0 ≤ x ∧ x < 4294967296
theorem xo_nat (a b : Int) (ha : W a) (hb : W b) : xo a b = ((a.toNat ^^^ b.toNat : Nat) : Int) := u32_xor a b ha.1 ha.2 hb.1 hb.2
theorem xo_W (a b : Int) (ha : W a) (hb : W b) : W (xo a b) := by
  rw [xo_nat a b ha hb]
  have h1 : a.toNat < 2 ^ 32 := by have := ha.1; have := ha.2; omega
  have h2 : b.toNat < 2 ^ 32 := by have := hb.1; have := hb.2; omega
  have := Nat.xor_lt_two_pow h1 h2
  exact ⟨by omega, by omega⟩
theorem xo_zero (a : Int) (ha : W a) : xo a 0 = a := by
  rw [xo_nat a 0 ha ⟨by omega, by omega⟩]
  have := ha.1
  simp; omega
theorem xo_inj (a a' b : Int) (ha : W a) (ha' : W a') (hb : W b) (h : xo a b = xo a' b) : a = a' := by
  rw [xo_nat a b ha hb, xo_nat a' b ha' hb] at h
  have h2 : a.toNat ^^^ b.toNat = a'.toNat ^^^ b.toNat := by omega
  have h3 : (a.toNat ^^^ b.toNat) ^^^ b.toNat = (a'.toNat ^^^ b.toNat) ^^^ b.toNat := by rw [h2]
  rw [Nat.xor_assoc, Nat.xor_self, Nat.xor_zero, Nat.xor_assoc, Nat.xor_self, Nat.xor_zero] at h3
  have := ha.1; have := ha'.1
  omega
theorem rot15_W (x : Int) (h : W x) : W (rot15 x) := by unfold W rot15 at *; omega
theorem rot13_W (x : Int) (h : W x) : W (rot13 x) := by unfold W rot13 at *; omega
theorem rot13_parts (x : Int) (h : W x) : rot13 x = (x % 524288) * 8192 + x / 524288 ∧ x / 524288 < 8192 ∧ 0 ≤ x / 524288 := by unfold W rot13 at *; omega
theorem rot13_inj (x y : Int) (hx : W x) (hy : W y) (h : rot13 x = rot13 y) : x = y := by
  have h1 := rot13_parts x hx
  have h2 := rot13_parts y hy
  rw [h1.1, h2.1] at h
  have e1 : x / 524288 = y / 524288 := by omega
  have e2 : x % 524288 = y % 524288 := by omega
  omega
theorem mix_W (k : Int) : W (mix k) := by unfold W mix; omega
theorem step_W (h k : Int) : W (step h k) := by unfold W step; omega
theorem un5 (x : Int) : (x * 5 % 4294967296) * 3435973837 % 4294967296 = x % 4294967296 := by omega
theorem unA (x : Int) : (x * 2246822507 % 4294967296) * 2781581891 % 4294967296 = x % 4294967296 := by omega
theorem unB (x : Int) : (x * 3266489909 % 4294967296) * 2127672349 % 4294967296 = x % 4294967296 := by omega
theorem add_inj (a b : Int) (ha : W a) (hb : W b) (h : (a + 3864292196) % 4294967296 = (b + 3864292196) % 4294967296) : a = b := by unfold W at *; omega
theorem mod_W (a : Int) : W (a % 4294967296) := by unfold W; omega
theorem of_un (x y a b : Int) (hx : W x) (hy : W y) (h1 : a = x % 4294967296) (h2 : b = y % 4294967296) (e : a = b) : x = y := by unfold W at *; omega
theorem five_inj (x y : Int) (hx : W x) (hy : W y) (h : (x * 5 % 4294967296 + 3864292196) % 4294967296 = (y * 5 % 4294967296 + 3864292196) % 4294967296) : x = y :=
  of_un x y _ _ hx hy (un5 x) (un5 y) (by rw [add_inj _ _ (mod_W _) (mod_W _) h])
theorem step_inj (h h' k : Int) (hh : W h) (hh' : W h') (e : step h k = step h' k) : h = h' :=
  xo_inj _ _ _ hh hh' (mix_W k) (rot13_inj _ _ (xo_W _ _ hh (mix_W k)) (xo_W _ _ hh' (mix_W k)) (five_inj _ _ (rot13_W _ (xo_W _ _ hh (mix_W k))) (rot13_W _ (xo_W _ _ hh' (mix_W k))) e))
theorem xor_zero' {x y : Nat} (h : x ^^^ y = 0) : x = y := by
  have e : (x ^^^ y) ^^^ y = y := by rw [h, Nat.zero_xor]
  rwa [Nat.xor_assoc, Nat.xor_self, Nat.xor_zero] at e
theorem shift_inj (x y : Nat) (s : Nat) (hs : 0 < s) (h : x ^^^ (x >>> s) = y ^^^ (y >>> s)) : x = y := by
  have h1 : (x ^^^ y) = (x ^^^ y) >>> s := by
    rw [Nat.shiftRight_xor_distrib]
    have : x ^^^ (x >>> s) ^^^ (y ^^^ (y >>> s)) = 0 := by rw [h, Nat.xor_self]
    have h2 : (x ^^^ y) ^^^ ((x >>> s) ^^^ (y >>> s)) = 0 := by
      rw [← this]
      ac_rfl
    exact xor_zero' h2
  have h3 : x ^^^ y = 0 := by
    rcases Nat.eq_zero_or_pos (x ^^^ y) with h0 | h0
    · exact h0
    · rw [Nat.shiftRight_eq_div_pow] at h1
      have := Nat.div_lt_self h0 (Nat.one_lt_two_pow (n := s) (by omega))
      omega
  exact xor_zero' h3
theorem xs_inj (x y : Int) (s : Nat) (hs : 0 < s) (hx : W x) (hy : W y) (h : xo x (x / 2 ^ s) = xo y (y / 2 ^ s)) : x = y := by
  obtain ⟨a, rfl⟩ := Int.eq_ofNat_of_zero_le hx.1
  obtain ⟨b, rfl⟩ := Int.eq_ofNat_of_zero_le hy.1
  have da : ((a : Int) / 2 ^ s) = ((a / 2 ^ s : Nat) : Int) := by simp
  have db : ((b : Int) / 2 ^ s) = ((b / 2 ^ s : Nat) : Int) := by simp
  have la : a / 2 ^ s ≤ a := Nat.div_le_self _ _
  have lb : b / 2 ^ s ≤ b := Nat.div_le_self _ _
  have wa := hx.2
  have wb := hy.2
  rw [da, db, xo_nat _ _ hx ⟨Int.natCast_nonneg _, by omega⟩, xo_nat _ _ hy ⟨Int.natCast_nonneg _, by omega⟩] at h
  simp only [Int.toNat_natCast] at h
  have := shift_inj a b s hs (by rw [Nat.shiftRight_eq_div_pow, Nat.shiftRight_eq_div_pow]; omega)
  omega
theorem xs_W (x : Int) (s : Nat) (hx : W x) : W (xo x (x / 2 ^ s)) := by
  obtain ⟨a, rfl⟩ := Int.eq_ofNat_of_zero_le hx.1
  have da : ((a : Int) / 2 ^ s) = ((a / 2 ^ s : Nat) : Int) := by simp
  have la : a / 2 ^ s ≤ a := Nat.div_le_self _ _
  have wa := hx.2
  rw [da]
  exact xo_W _ _ hx ⟨Int.natCast_nonneg _, by omega⟩
theorem fin3_inj (x y : Int) (hx : W x) (hy : W y) (h : fin3 x = fin3 y) : x = y := xs_inj x y 16 (by decide) hx hy h
theorem fin2_inj (x y : Int) (hx : W x) (hy : W y) (h : fin2 x = fin2 y) : x = y := by
  refine xs_inj x y 13 (by decide) hx hy ?_
  have h1 := unB (xo x (x / 2 ^ 13))
  have h2 := unB (xo y (y / 2 ^ 13))
  have w1 := xs_W x 13 hx
  have w2 := xs_W y 13 hy
  have h' : xo x (x / 2 ^ 13) * 3266489909 % 4294967296 = xo y (y / 2 ^ 13) * 3266489909 % 4294967296 := h
  exact of_un _ _ _ _ w1 w2 h1 h2 (by rw [h'])
theorem fin1_inj (x y : Int) (hx : W x) (hy : W y) (h : fin1 x = fin1 y) : x = y := by
  refine xs_inj x y 16 (by decide) hx hy ?_
  have h1 := unA (xo x (x / 2 ^ 16))
  have h2 := unA (xo y (y / 2 ^ 16))
  have w1 := xs_W x 16 hx
  have w2 := xs_W y 16 hy
  have h' : xo x (x / 2 ^ 16) * 2246822507 % 4294967296 = xo y (y / 2 ^ 16) * 2246822507 % 4294967296 := h
  exact of_un _ _ _ _ w1 w2 h1 h2 (by rw [h'])
theorem fin1_W (x : Int) : W (fin1 x) := by unfold W fin1; omega
theorem fin2_W (x : Int) : W (fin2 x) := by unfold W fin2; omega
theorem fin3_W (x : Int) (h : W x) : W (fin3 x) := xs_W x 16 h
/-- Four bytes at a time. -/
theorem body_four (a b c d : Int) (l : List Int) (h : Int) : body (a :: b :: c :: d :: l) h = body l (step h (word a b c d)) := rfl
theorem body_few (l : List Int) (h : Int) (hl : l.length < 4) : body l h = xo h (mix (rest l)) := by
  match l, hl with
  | [], _ => rfl
  | [a], _ => rfl
  | [a, b], _ => rfl
  | [a, b, c], _ => rfl
theorem four_of (l : List Int) (hl : 4 ≤ l.length) : ∃ a b c d m, l = a :: b :: c :: d :: m := by
  match l, hl with
  | a :: b :: c :: d :: m, _ => exact ⟨a, b, c, d, m, rfl⟩
theorem body_both (n : Nat) : ∀ (l : List Int) (h h' : Int), l.length ≤ n → W h → W h' → W (body l h) ∧ (body l h = body l h' → h = h') := by
  induction n with
  | zero =>
    intro l h h' hl hh hh'
    rw [body_few l h (by omega), body_few l h' (by omega)]
    exact ⟨xo_W _ _ hh (mix_W _), xo_inj _ _ _ hh hh' (mix_W _)⟩
  | succ n ih =>
    intro l h h' hl hh hh'
    by_cases h4 : l.length < 4
    · rw [body_few l h h4, body_few l h' h4]
      exact ⟨xo_W _ _ hh (mix_W _), xo_inj _ _ _ hh hh' (mix_W _)⟩
    · obtain ⟨a, b, c, d, m, rfl⟩ := four_of l (by omega)
      rw [body_four, body_four]
      have := ih m (step h (word a b c d)) (step h' (word a b c d)) (by simp only [List.length_cons] at hl; omega) (step_W _ _) (step_W _ _)
      exact ⟨this.1, fun e => step_inj _ _ _ hh hh' (this.2 e)⟩
theorem body_W (l : List Int) (h : Int) (hh : W h) : W (body l h) := (body_both l.length l h h (Nat.le_refl _) hh hh).1
theorem murmur_W (l : List Int) (s : Int) : W (murmur l s) := fin3_W _ (fin2_W _)
theorem murmur_inj (l : List Int) (s t : Int) (hs : W s) (ht : W t) (h : murmur l s = murmur l t) : s = t := by
  have hn : W ((l.length : Int) % 4294967296) := by unfold W; omega
  have ws := body_W l s hs
  have wt := body_W l t ht
  have h1 := fin3_inj _ _ (fin2_W _) (fin2_W _) h
  have h2 := fin2_inj _ _ (fin1_W _) (fin1_W _) h1
  have h3 := fin1_inj _ _ (xo_W _ _ ws hn) (xo_W _ _ wt hn) h2
  have h4 := xo_inj _ _ _ ws wt hn h3
  exact (body_both l.length l s t (Nat.le_refl _) hs ht).2 h4
end Go.Proofs.Yteeimkafcadinaa.Mur
