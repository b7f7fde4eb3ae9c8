/- DigestSeeds as a plain fact on numbers and lists: Murmur tells seeds apart, and Adler of two texts comes of both. -/
import Derived.Test.YtcppajpkllfpmaaGx1
namespace Go.Proofs.Ytcppajpkllfpmaa.Pure
open Go.RowKit Go.Proofs.Ytcppajpkllfpmaa.G Go.Proofs.Ytcppajpkllfpmaa.X Go.Proofs.YtcppajpkllfpmaaW.PrintWords Go.Proofs.YtcppajpkllfpmaaW.PrintLast Go.Proofs.YtcppajpkllfpmaaW.PrintMore

def wt : List Int → Int
  | [] => 0
  | c :: l => c * ((l.length : Int) + 1) + wt l
theorem carry (n x c y w z q : Int) (hz : x + c = z + 65521 * q) : ((y + z) % 65521 + n * z + w) % 65521 = (y + (n + 1) * x + (c * (n + 1) + w)) % 65521 := by
  have h1 : (n + 1) * (x + c) = n * z + z + 65521 * (n * q + q) := by rw [hz]; simp only [Int.mul_add, Int.add_mul, Int.one_mul, Int.mul_left_comm n 65521 q]
  have h2 : (n + 1) * (x + c) = (n + 1) * x + c * (n + 1) := by rw [Int.mul_add, Int.mul_comm (n + 1) c]
  generalize n * z = A at *
  generalize n * q = B at *
  generalize (n + 1) * x = C at *
  generalize c * (n + 1) = D at *
  omega
theorem adl_snd (l : List Int) : ∀ (x y : Int), 0 ≤ x → x < 65521 → 0 ≤ y → y < 65521 → (Ad.adl l x y).2 = (y + (l.length : Int) * x + wt l) % 65521 := by
  induction l with
  | nil => intro x y hx hx1 hy hy1; simp only [Ad.adl, wt, List.length_nil]; omega
  | cons c l ih =>
    intro x y hx hx1 hy hy1
    show (Ad.adl l ((x + c) % 65521) ((y + (x + c) % 65521) % 65521)).2 = _
    rw [ih _ _ (by omega) (by omega) (by omega) (by omega)]
    simp only [wt, List.length_cons]
    exact carry (l.length : Int) x c y (wt l) ((x + c) % 65521) ((x + c) / 65521) (by omega)
theorem both_snd (n x1 y1 w : Int) : (y1 + n * x1 + w) % 65521 = ((y1 + (n * 1 + w) % 65521) + n * (x1 + 65520)) % 65521 := by
  have h1 : n * (x1 + 65520) = n * x1 + n * 65520 := Int.mul_add _ _ _
  rw [h1]
  generalize n * x1 = A at *
  omega
theorem parts_of (l : List Int) : X.adler l / 65536 = (Ad.adl l 1 0).2 ∧ X.adler l % 65536 = (Ad.adl l 1 0).1 ∧ 0 ≤ X.adler l ∧ X.adler l < 4294967296 := by
  have r := Ad.adl_range l 1 0 (by omega) (by omega) (by omega) (by omega)
  unfold X.adler
  omega
theorem mask16 (x : Int) (h0 : 0 ≤ x) (h1 : x < 4294967296) : bits .and .u32 x 65535 = x % 65536 :=
  bits_mask .u32 32 (by decide) (fun n h0 h1 => by rw [IntKind.wrap_u32]; omega) 16 (by decide) x h0 (by omega)
theorem w64 (x : Int) (h0 : 0 ≤ x) (h1 : x < 18446744073709551616) : IntKind.u64.wrap x = x := by
  simp [IntKind.wrap, IntKind.bits, IntKind.signed]; omega
theorem or64 (x y : Int) (hx : 0 ≤ x) (hx1 : x < 65536) (hy : 0 ≤ y) (hy1 : y < 65536) : bits .or .u64 (y * 65536) x = y * 65536 + x :=
  bits_join .u64 64 (by decide) (fun n h0 h1 => w64 n h0 (by omega)) 16 _ _ (by omega) (by omega) (by omega) hx (by omega) (by omega)
theorem adler_both (b c : List Int) (hc : c.length ≤ 65536) :
    X.adler (b ++ c) = (Go.bits .or .u64 (IntKind.u64.wrap ((Int.tmod (IntKind.u64.wrap ((IntKind.u64.wrap ((IntKind.u64.wrap (X.adler b / 65536)) + (IntKind.u64.wrap (X.adler c / 65536)))) + (IntKind.u64.wrap ((IntKind.u64.wrap ((c.length : Int))) * (IntKind.u64.wrap ((IntKind.u64.wrap (Go.bits .and .u32 (X.adler b) 65535)) + 65520)))))) 65521) * 65536)) (Int.tmod (IntKind.u64.wrap ((IntKind.u64.wrap ((IntKind.u64.wrap (Go.bits .and .u32 (X.adler b) 65535)) + (IntKind.u64.wrap (Go.bits .and .u32 (X.adler c) 65535)))) + 65520)) 65521)) % 4294967296 := by
  have pb := parts_of b
  have pc := parts_of c
  have rb := Ad.adl_range b 1 0 (by omega) (by omega) (by omega) (by omega)
  have rc := Ad.adl_range c 1 0 (by omega) (by omega) (by omega) (by omega)
  have ra := Ad.adl_range c (Ad.adl b 1 0).1 (Ad.adl b 1 0).2 rb.1.1 rb.1.2 rb.2.1 rb.2.2
  have f1 := Ad.adl_fst c (Ad.adl b 1 0).1 (Ad.adl b 1 0).2 rb.1.1 rb.1.2
  have f2 := Ad.adl_fst c 1 0 (by omega) (by omega)
  have g1 := adl_snd c (Ad.adl b 1 0).1 (Ad.adl b 1 0).2 rb.1.1 rb.1.2 rb.2.1 rb.2.2
  have g2 := adl_snd c 1 0 (by omega) (by omega) (by omega) (by omega)
  rw [both_snd] at g1
  rw [mask16 _ pb.2.2.1 pb.2.2.2, mask16 _ pc.2.2.1 pc.2.2.2, pb.1, pb.2.1, pc.1, pc.2.1]
  have ha : X.adler (b ++ c) = (Ad.adl c (Ad.adl b 1 0).1 (Ad.adl b 1 0).2).2 * 65536 + (Ad.adl c (Ad.adl b 1 0).1 (Ad.adl b 1 0).2).1 := by
    unfold X.adler; rw [Ad.adl_append]
  rw [ha, f1, g1]
  generalize hx1 : (Ad.adl b 1 0).1 = x1 at *
  generalize hy1 : (Ad.adl b 1 0).2 = y1 at *
  generalize hx2 : (Ad.adl c 1 0).1 = x2 at *
  generalize hy2 : (Ad.adl c 1 0).2 = y2 at *
  have hm : 0 ≤ (c.length : Int) * (x1 + 65520) ∧ (c.length : Int) * (x1 + 65520) ≤ 65536 * 131041 :=
    ⟨Int.mul_nonneg (by omega) (by omega), Int.mul_le_mul (by omega) (by omega) (by omega) (by omega)⟩
  have g3 : ((c.length : Int) * 1 + wt c) % 65521 = y2 := by rw [g2]; congr 1; omega
  rw [g3]
  rw [w64 y1 (by omega) (by omega), w64 y2 (by omega) (by omega), w64 (y1 + y2) (by omega) (by omega), w64 (c.length : Int) (by omega) (by omega), w64 x1 (by omega) (by omega), w64 (x1 + 65520) (by omega) (by omega),
    w64 x2 (by omega) (by omega), w64 (x1 + x2) (by omega) (by omega), w64 (x1 + x2 + 65520) (by omega) (by omega)]
  generalize (c.length : Int) * (x1 + 65520) = p at *
  rw [w64 p (by omega) (by omega), w64 (y1 + y2 + p) (by omega) (by omega), Int.tmod_eq_emod_of_nonneg (by omega), Int.tmod_eq_emod_of_nonneg (by omega), w64 _ (by omega) (by omega), or64 _ _ (by omega) (by omega) (by omega) (by omega)]
  omega

theorem j_true (b c : List Int) (x y : Int) : thermographlaw04_DigestSeeds.j0 1 b c x y true = some true := by
  rw [thermographlaw04_DigestSeeds.j0]
  exact if_pos rfl
theorem same_seed (b : List Int) (x y : Int) (hx : Mur.W x) (hy : Mur.W y) : ((Mur.murmur b x == Mur.murmur b y) != (x == y)) = false := by
  by_cases hxy : x = y
  · subst hxy; simp
  · have h1 : (x == y) = false := by simpa using hxy
    have h2 : (Mur.murmur b x == Mur.murmur b y) = false := by
      rw [beq_eq_false_iff_ne]
      exact fun h => hxy (Mur.murmur_inj b x y hx hy h)
    rw [h1, h2]; rfl
theorem j_false (b c : List Int) (x y m1 m2 a1 a2 a3 : Int) (hb : b.length ≤ 65536) (hc : c.length ≤ 65536) (h1 : digest_Murmur.f b x = some m1) (h2 : digest_Murmur.f b y = some m2) (h3 : digest_Adler.f b = some a1) (h4 : digest_Adler.f c = some a2)
    (h5 : digest_Adler.f (b ++ c) = some a3) (he : ((m1 == m2) != (x == y)) = false)
    (ha : a3 = (Go.bits .or .u64 (IntKind.u64.wrap ((Int.tmod (IntKind.u64.wrap ((IntKind.u64.wrap ((IntKind.u64.wrap (a1 / 65536)) + (IntKind.u64.wrap (a2 / 65536)))) + (IntKind.u64.wrap ((IntKind.u64.wrap ((c.length : Int))) * (IntKind.u64.wrap ((IntKind.u64.wrap (Go.bits .and .u32 a1 65535)) + 65520)))))) 65521) * 65536)) (Int.tmod (IntKind.u64.wrap ((IntKind.u64.wrap ((IntKind.u64.wrap (Go.bits .and .u32 a1 65535)) + (IntKind.u64.wrap (Go.bits .and .u32 a2 65535)))) + 65520)) 65521)) % 4294967296) :
    thermographlaw04_DigestSeeds.j0 1 b c x y false = some true := by
  rw [thermographlaw04_DigestSeeds.j0, if_neg (by decide), h1, h2, X.some_bind, X.some_bind, he, if_neg (by decide), X.some_bind, List.nil_append, if_pos (by rw [List.length_nil]; omega), X.some_bind, if_pos (by omega), h3, h4, h5, X.some_bind, X.some_bind, X.some_bind, ← ha]
  rw [beq_self_eq_true]
theorem DigestSeeds : thermographlaw04_DigestSeeds.Pure := by
  intro b c x y _ hb hwb _ hc hwc hx hy
  have bx := bounds_u32 hx
  have by_ := bounds_u32 hy
  refine ⟨1, ?_⟩
  unfold thermographlaw04_DigestSeeds.f
  by_cases h1 : (b.length : Int) > 65536
  · rw [if_pos h1]; exact j_true b c x y
  rw [if_neg h1]
  by_cases h2 : (c.length : Int) > 65536
  · rw [decide_eq_true h2]; exact j_true b c x y
  rw [decide_eq_false h2]
  have fb : fits b := ⟨bytesB_of (X.bytes_of_wf hwb), by omega⟩
  have fc : fits c := ⟨bytesB_of (X.bytes_of_wf hwc), by omega⟩
  have fbc : fits (b ++ c) := ⟨bytesB_of (Ad.bytes_append (bytes_of fb.1) (bytes_of fc.1)), by rw [List.length_append]; omega⟩
  have m1 : digest_Murmur.f b x = some (Mur.murmur b x) := if_pos ⟨fb.1, by omega, by omega, fb.2⟩
  have m2 : digest_Murmur.f b y = some (Mur.murmur b y) := if_pos ⟨fb.1, by omega, by omega, fb.2⟩
  have a1 : digest_Adler.f b = some (X.adler b) := if_pos fb
  have a2 : digest_Adler.f c = some (X.adler c) := if_pos fc
  have a3 : digest_Adler.f (b ++ c) = some (X.adler (b ++ c)) := if_pos fbc
  exact j_false b c x y _ _ _ _ _ (by omega) (by omega) m1 m2 a1 a2 a3 (same_seed b x y ⟨by omega, by omega⟩ ⟨by omega, by omega⟩) (adler_both b c (by omega))

end Go.Proofs.Ytcppajpkllfpmaa.Pure
