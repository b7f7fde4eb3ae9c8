/- DigestOne: of few bytes of which just one is another one, Adler is another one: for every input. -/
import Derived.Test.YtcppajpkllfpmaaPDigestOnex1
import Derived.Test.YtcppajpkllfpmaaAd
import Derived.OpenShut
namespace Go.Proofs.Ytcppajpkllfpmaa.Pure
open Go.RowKit Go.Proofs.Ytcppajpkllfpmaa.PDigestOne Go.Proofs.YtcppajpkllfpmaaW.PrintWords Go.Proofs.YtcppajpkllfpmaaW.PrintLast Go.Proofs.YtcppajpkllfpmaaW.PrintMore

/-! The loops of the two programs of Adler, as printed for this law. -/
theorem wrap_at {i : Nat} {n : Nat} (h : i < n) (hn : n ≤ 140737488351232) : wrap64 ((i : Int) + 1) = ((i + 1 : Nat) : Int) := by
  unfold wrap64
  omega
theorem bytes_of_wf {l : List Int} (h : ∀ x ∈ l, (Lit.int .u8 x).wf = true) : Ad.Bytes l := fun c hc => by
  have := bounds_u8 (h c hc)
  omega
theorem ref_l0 (l : List Int) (hb : Ad.Bytes l) (hn : l.length ≤ 140737488351232) : ∀ (d k i : Nat) (x y : Int), i ≤ l.length → l.length - i = d → d < k → 0 ≤ x → x < 65521 → 0 ≤ y → y < 65521 →
    thermographref04_Adler.l0 k l x y i = some ((Ad.adl (l.drop i) x y).2 * 65536 + (Ad.adl (l.drop i) x y).1) := by
  intro d
  induction d with
  | zero =>
    intro k i x y hi hd hk hx hx1 hy hy1
    obtain ⟨k, rfl⟩ : ∃ m, k = m + 1 := ⟨k - 1, by omega⟩
    have e : i = l.length := by omega
    subst e
    simp only [thermographref04_Adler.l0]
    rw [if_neg (by omega), List.drop_length]
    simp only [Ad.adl]
    congr 1
    omega
  | succ d ih =>
    intro k i x y hi hd hk hx hx1 hy hy1
    obtain ⟨k, rfl⟩ : ∃ m, k = m + 1 := ⟨k - 1, by omega⟩
    have hlt : i < l.length := by omega
    have hc := Ad.bytes_at hb i hlt
    simp only [thermographref04_Adler.l0]
    rw [if_pos (by omega), if_pos (by omega), wrap_at hlt hn]
    have er : rd l (i : Int) = l.getD i 0 := by simp [rd]
    rw [er]
    have e1 : (x + l.getD i 0 % 4294967296) % 4294967296 % 65521 = (x + l.getD i 0) % 65521 := by omega
    rw [e1]
    have e2 : (y + (x + l.getD i 0) % 65521) % 4294967296 % 65521 = (y + (x + l.getD i 0) % 65521) % 65521 := by omega
    rw [e2, ih k (i + 1) _ _ (by omega) (by omega) (by omega) (by omega) (by omega) (by omega) (by omega), Ad.drop_at l i hlt]
    rfl
theorem ref_adler (l : List Int) (hb : Ad.Bytes l) (hn : l.length ≤ 140737488351232) (k : Nat) (hk : l.length < k) :
    thermographref04_Adler.f k l = some ((Ad.adl l 1 0).2 * 65536 + (Ad.adl l 1 0).1) := by
  have := ref_l0 l hb hn l.length k 0 1 0 (by omega) (by omega) hk (by omega) (by omega) (by omega) (by omega)
  simpa [thermographref04_Adler.f] using this
/-- One part of at most 3000 bytes. -/
theorem own_l1 (x0 p : List Int) (hp : p.length ≤ 3000) (hb : Ad.Bytes p) (hq : p.length ≤ x0.length) : ∀ (d k i : Nat) (x y : Int), i ≤ p.length → p.length - i = d → d + 1 ≤ k → 0 ≤ x → x ≤ 65520 + 255 * (i : Int) → 0 ≤ y → y ≤ 65520 + 900000 * (i : Int) →
    digest_Adler.l1 k x0 x y p p (p.length : Int) i = digest_Adler.l0 (k - (d + 1)) (x0.drop p.length) ((Ad.raw (p.drop i) x y).1 % 65521) ((Ad.raw (p.drop i) x y).2 % 65521) ∧ 0 ≤ (Ad.raw (p.drop i) x y).1 ∧ 0 ≤ (Ad.raw (p.drop i) x y).2 := by
  intro d
  induction d with
  | zero =>
    intro k i x y hi hd hk hx hx1 hy hy1
    obtain ⟨k, rfl⟩ : ∃ m, k = m + 1 := ⟨k - 1, by omega⟩
    have e : i = p.length := by omega
    subst e
    rw [List.drop_length]
    simp only [digest_Adler.l1, Ad.raw]
    rw [if_neg (by omega), if_pos (by omega), if_pos (by omega)]
    refine ⟨?_, hx, hy⟩
    rw [Int.tmod_eq_emod_of_nonneg hx, Int.tmod_eq_emod_of_nonneg hy]
    simp
  | succ d ih =>
    intro k i x y hi hd hk hx hx1 hy hy1
    obtain ⟨k, rfl⟩ : ∃ m, k = m + 1 := ⟨k - 1, by omega⟩
    have hlt : i < p.length := by omega
    have hc := Ad.bytes_at hb i hlt
    have er : rd p (i : Int) = p.getD i 0 := by simp [rd]
    have e0 : wrap64 (p.getD i 0) = p.getD i 0 := by unfold wrap64; omega
    have e1 : wrap64 (x + p.getD i 0) = x + p.getD i 0 := by unfold wrap64; omega
    have e2 : wrap64 (y + (x + p.getD i 0)) = y + (x + p.getD i 0) := by unfold wrap64; omega
    simp only [digest_Adler.l1]
    rw [if_pos (by omega), if_pos (by omega), if_pos (by omega), er, e0, e1, e2, wrap_at hlt (by omega)]
    have := ih k (i + 1) (x + p.getD i 0) (y + (x + p.getD i 0)) (by omega) (by omega) (by omega) (by omega) (by omega) (by omega) (by omega)
    rw [Ad.drop_at p i hlt]
    have ek : k + 1 - (d + 1 + 1) = k - (d + 1) := by omega
    rw [ek]
    exact this
theorem own_l0 : ∀ (d k : Nat) (l : List Int) (x y : Int), Ad.Bytes l → l.length ≤ 140737488351232 → l.length ≤ d → 3 * l.length < k → 0 ≤ x → x < 65521 → 0 ≤ y → y < 65521 →
    digest_Adler.l0 k l x y = some ((Ad.adl l x y).2 * 65536 + (Ad.adl l x y).1) := by
  intro d
  induction d with
  | zero =>
    intro k l x y hb hn hd hk hx hx1 hy hy1
    obtain ⟨k, rfl⟩ : ∃ m, k = m + 1 := ⟨k - 1, by omega⟩
    have e : l = [] := List.eq_nil_of_length_eq_zero (by omega)
    subst e
    simp only [digest_Adler.l0, Ad.adl]
    rw [if_neg (by simp)]
    congr 1
    have e1 : x % 4294967296 = x := by omega
    have e2 : y % 4294967296 * 65536 % 4294967296 = y * 65536 := by omega
    rw [e1, e2]
    exact Ad.or_join x y hx (by omega) hy (by omega)
  | succ d ih =>
    intro k l x y hb hn hd hk hx hx1 hy hy1
    rcases Nat.eq_zero_or_pos l.length with h0 | h0
    · obtain ⟨k, rfl⟩ : ∃ m, k = m + 1 := ⟨k - 1, by omega⟩
      have e : l = [] := List.eq_nil_of_length_eq_zero (by omega)
      subst e
      simp only [digest_Adler.l0, Ad.adl]
      rw [if_neg (by simp)]
      congr 1
      have e1 : x % 4294967296 = x := by omega
      have e2 : y % 4294967296 * 65536 % 4294967296 = y * 65536 := by omega
      rw [e1, e2]
      exact Ad.or_join x y hx (by omega) hy (by omega)
    · obtain ⟨k, rfl⟩ : ∃ m, k = m + 1 := ⟨k - 1, by omega⟩
      obtain ⟨m, hm⟩ : ∃ m : Nat, m = min l.length 3000 := ⟨_, rfl⟩
      have em : mn (l.length : Int) 3000 = (m : Int) := by unfold mn; split <;> omega
      simp only [digest_Adler.l0]
      rw [em, if_pos (by omega), if_pos (by omega), if_pos (by omega)]
      simp only [Option.bind_some, Int.toNat_natCast]
      have hl : (l.take m).length = m := by rw [List.length_take]; omega
      have hb' := Ad.bytes_take hb m
      obtain ⟨h1, h2, h3⟩ := own_l1 l (l.take m) (by omega) hb' (by omega) m k 0 x y (by omega) (by omega) (by omega) hx (by omega) hy (by omega)
      rw [show ((0 : Nat) : Int) = 0 from rfl, List.drop_zero, hl] at h1
      rw [hl]
      rw [h1]
      have hr := Ad.raw_mod (l.take m) x y
      rw [Int.emod_eq_of_lt hx hx1, Int.emod_eq_of_lt hy hy1] at hr
      have hs := Ad.adl_append (l.take m) (l.drop m) x y
      rw [List.take_append_drop, hr] at hs
      rw [hs]
      exact ih _ _ _ _ (Ad.bytes_drop hb m) (by rw [List.length_drop]; omega) (by rw [List.length_drop]; omega) (by rw [List.length_drop]; omega) (by omega) (by omega) (by omega) (by omega)
theorem own_adler (l : List Int) (hb : Ad.Bytes l) (hn : l.length ≤ 140737488351232) (k : Nat) (hk : 3 * l.length < k) :
    digest_Adler.f k l = some ((Ad.adl l 1 0).2 * 65536 + (Ad.adl l 1 0).1) := own_l0 l.length k l 1 0 hb hn (Nat.le_refl _) hk (by omega) (by omega) (by omega) (by omega)

theorem some_bind {α β : Type} (a : α) (f : α → Option β) : (some a).bind f = f a := rfl
theorem low16 (a b : Int × Int) (ha : 0 ≤ a.1 ∧ a.1 < 65521) (hb : 0 ≤ b.1 ∧ b.1 < 65521) (h : a.2 * 65536 + a.1 = b.2 * 65536 + b.1) : a.1 = b.1 := by omega
theorem other (l : List Int) (hb : Ad.Bytes l) (i : Nat) (hi : i < l.length) (by_ : Int) (h0 : 0 ≤ by_) (h1 : by_ < 256) :
    (((Ad.adl (l.set i ((l.getD i 0 + by_) % 256)) 1 0).2 * 65536 + (Ad.adl (l.set i ((l.getD i 0 + by_) % 256)) 1 0).1) == ((Ad.adl l 1 0).2 * 65536 + (Ad.adl l 1 0).1)) = (by_ == 0) := by
  have hc := Ad.bytes_at hb i hi
  by_cases e : by_ = 0
  · subst e
    have e2 : (l.getD i 0 + 0) % 256 = l.getD i 0 := by omega
    have e3 : l.set i (l.getD i 0) = l := by
      rw [List.getD_eq_getElem?_getD, List.getElem?_eq_getElem hi]
      exact List.set_getElem_self hi
    rw [e2, e3]; simp
  · have e4 : (by_ == 0) = false := by simpa using e
    rw [e4, beq_eq_false_iff_ne]
    intro h
    have r1 := (Ad.adl_range (l.set i ((l.getD i 0 + by_) % 256)) 1 0 (by omega) (by omega) (by omega) (by omega)).1
    have r2 := (Ad.adl_range l 1 0 (by omega) (by omega) (by omega) (by omega)).1
    have := low16 _ _ r1 r2 h
    rw [Ad.adl_fst _ _ _ (by omega) (by omega), Ad.adl_fst _ _ _ (by omega) (by omega), Ad.total_set _ _ _ hi] at this
    omega

theorem DigestOne : thermographlaw04_DigestOne.Pure := by
  intro l a1 a2 hn hn' hw hw1 hw2
  have hn2 : l.length ≤ 140737488351232 := by omega
  have hb := bytes_of_wf hw
  have b2 := bounds_u8 hw2
  by_cases h1 : l.length < 1
  · refine ⟨1, ?_⟩
    unfold thermographlaw04_DigestOne.f
    rw [if_pos (by omega)]
    simp [thermographlaw04_DigestOne.j0]
  by_cases h2 : l.length > 4000
  · refine ⟨1, ?_⟩
    unfold thermographlaw04_DigestOne.f
    rw [if_neg (by omega)]
    have : decide ((l.length : Int) > 4000) = true := decide_eq_true (by omega)
    rw [this]
    simp [thermographlaw04_DigestOne.j0]
  · refine ⟨3 * l.length + 2, ?_⟩
    unfold thermographlaw04_DigestOne.f
    rw [if_neg (by omega)]
    have : decide ((l.length : Int) > 4000) = false := decide_eq_false (by omega)
    rw [this]
    simp only [thermographlaw04_DigestOne.j0]
    rw [if_neg (by decide), own_adler l hb hn2 _ (by omega)]
    simp only [some_bind, List.nil_append, List.length_nil, Nat.zero_add]
    rw [if_pos (by omega), if_neg (by omega)]
    obtain ⟨i, hi⟩ : ∃ i, Int.tmod (wrap64 (Int.tmod a1 (l.length : Int) + (l.length : Int))) (l.length : Int) = i := ⟨_, rfl⟩
    rw [hi]
    have hm0 := Int.lt_tmod_of_pos a1 (b := (l.length : Int)) (by omega)
    have hm1 := Int.tmod_lt_of_pos a1 (b := (l.length : Int)) (by omega)
    have ew : wrap64 (Int.tmod a1 (l.length : Int) + (l.length : Int)) = Int.tmod a1 (l.length : Int) + (l.length : Int) := by unfold wrap64; omega
    rw [ew, Int.tmod_eq_emod_of_nonneg (by omega)] at hi
    have hi0 : 0 ≤ i := by rw [← hi]; exact Int.emod_nonneg _ (by omega)
    have hi1 : i < (l.length : Int) := by rw [← hi]; exact Int.emod_lt_of_pos _ (by omega)
    obtain ⟨n, rfl⟩ := Int.eq_ofNat_of_zero_le hi0
    rw [if_pos hi0, if_pos hi1, ref_adler l hb hn2 _ (by omega)]
    simp only [some_bind, if_true, Int.toNat_natCast]
    have er : rd l (n : Int) = l.getD n 0 := by simp [rd]
    rw [er]
    have hc := Ad.bytes_at hb n (by omega)
    rw [own_adler _ (Ad.bytes_set hb n _ (by omega) (by omega)) (by simpa using hn2) _ (by simp only [List.length_set]; omega)]
    simp only [some_bind]
    congr 1
    rw [other l hb n (by omega) a2 (by omega) (by omega)]
    simp

end Go.Proofs.Ytcppajpkllfpmaa.Pure
