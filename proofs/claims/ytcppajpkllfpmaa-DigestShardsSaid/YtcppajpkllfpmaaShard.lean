/- What digest.Shard and the reference's Shard compute, of every name and every number of shards. -/
import Derived.Test.YtcppajpkllfpmaaRefMur
namespace Go.Proofs.Ytcppajpkllfpmaa.X
open Go.RowKit Go.Proofs.Ytcppajpkllfpmaa Go.Proofs.YtcppajpkllfpmaaW.PrintWords Go.Proofs.YtcppajpkllfpmaaW.PrintLast Go.Proofs.YtcppajpkllfpmaaW.PrintMore
theorem conv_string (w : World) (s : ByteArray) (hs : s.size ≤ 140737488351232) : ∃ cap W1, (convert 9 22 (.string s)).run Try.prog w = .ok (.slice (some ⟨w.heap.size, 0, none⟩) (bytesOf s).length cap) W1 ∧ (bytesOf s).length ≤ cap ∧ Below w.heap.size w W1 ∧ Kd.C (Kd.int .u8) W1 (some ⟨w.heap.size, 0, none⟩) (bytesOf s).length (bytesOf s) := by
  refine ⟨grownCap w s.size 0 5, Lib.bytesWorld w 5 s, ?_, ?_, ?_, ?_⟩
  · rw [bytesOf_length]
    exact Lib.run_convert_string_bytes (P := Try.prog) w 9 22 5 s Try.underlying9 Try.underlying22 Try.underlying5
  · rw [bytesOf_length]
    exact grownCap_ge w s.size 0 5
  · exact ⟨rfl, rfl, rfl, by rw [Lib.bytesWorld_size]; omega, fun k hk => Lib.bytesWorld_at_old w 5 s k hk⟩
  · refine Kd.C_of_reads (d := (0 : Int)) (h1 := fun _ => rfl) ⟨rfl, by rw [bytesOf_length]; omega, fun _ => ⟨_, rfl, fun j hj => ?_⟩⟩
    rw [bytesOf_length] at hj
    rw [add_plain, Lib.bytesWorld_cell w 5 s j hj]
    have hj' : j < s.data.toList.length := by rw [data_length]; exact hj
    rw [List.getD_eq_getElem?_getD, List.getD_eq_getElem?_getD, bytesOf, List.getElem?_map, List.getElem?_eq_getElem hj']
    rfl
def shard (s : ByteArray) (n : Int) : Int := if n < 1 then 0 else Mur.murmur (bytesOf s) 0 % n
def digest_Shard.f (a0 : ByteArray) (a1 : Int) : Option Int := if a0.size ≤ 140737488351232 ∧ a1 < 9223372036854775808 then some (shard a0 a1) else none
theorem bytes_bytesOf (s : ByteArray) : Ad.Bytes (bytesOf s) := by
  intro c hc
  obtain ⟨b, _, rfl⟩ := List.mem_map.1 hc
  have := b.toNat_lt
  omega
theorem murmur_some (s : ByteArray) (hs : s.size ≤ 140737488351232) : digest_Murmur.f (bytesOf s) 0 = some (Mur.murmur (bytesOf s) 0) :=
  if_pos ⟨bytesB_of (bytes_bytesOf s), by omega, by omega, by rw [bytesOf_length]; exact hs⟩
theorem digest_Shard.calls (a0 : ByteArray) (a1 : Int) (r : Int) (w : World) (h : digest_Shard.f a0 a1 = some r) :
    Calls Try.prog 9 #[.string a0, .int .i64 a1] w fun e w' => e = .returned (.int .i64 r) ∧ Below w.heap.size w w' := by
  unfold digest_Shard.f at h
  split at h
  · rename_i hf
    obtain rfl := Option.some.inj h
    clear h
    obtain ⟨h0, h1⟩ := hf
    have HS := Aside0.mk h0
    by_cases hn : a1 < 1
    · have e : shard a0 a1 = 0 := if_pos hn
      rw [e]
      go_enter Try.func9, Try.ntmps9
      go_wp2
      go_ret
      exact ⟨rfl, Below.refl _ _⟩
    · have e : shard a0 a1 = Mur.murmur (bytesOf a0) 0 % a1 := if_neg hn
      rw [e]
      obtain ⟨cap, W1, hrun, hcap, hb, hC⟩ := conv_string w a0 h0
      have HCAP := Aside0.mk hcap
      have HB := Aside0.mk hb
      have HC := Aside0.mk hC
      have HE := Aside0.mk e
      have hm := Mur.murmur_W (bytesOf a0) 0
      have hf : digest_Murmur.f (bytesOf a0) 0 = some (Mur.murmur (bytesOf a0) 0) := murmur_some a0 h0
      have HF := Aside0.mk hf
      clear hcap hb hC e hf HS
      obtain ⟨m0, m1⟩ := hm
      go_enter Try.func9, Try.ntmps9
      go_wp2_with fail
      with_reducible refine (digest_Murmur.calls _ cap (bytesOf a0) 0 _ W1 HC.out HCAP.out HF.out).mono ?_
      rintro e w1 ⟨rfl, hb1⟩
      go_wp2
      go_ret
      exact ⟨rfl, below_step HB.out hb1⟩
  · cases h
def thermographref04_Shard.f (a0 : ByteArray) (a1 : Int) : Option Int := digest_Shard.f a0 a1
theorem thermographref04_Shard.calls (a0 : ByteArray) (a1 : Int) (r : Int) (w : World) (h : thermographref04_Shard.f a0 a1 = some r) :
    Calls Try.prog 10 #[.string a0, .int .i64 a1] w fun e w' => e = .returned (.int .i64 r) ∧ Below w.heap.size w w' := by
  unfold thermographref04_Shard.f digest_Shard.f at h
  split at h
  · rename_i hf
    obtain rfl := Option.some.inj h
    clear h
    obtain ⟨h0, h1⟩ := hf
    have HS := Aside0.mk h0
    by_cases hn : a1 < 1
    · have e : shard a0 a1 = 0 := if_pos hn
      rw [e]
      go_enter Try.func10, Try.ntmps10
      go_wp2
      go_ret
      exact ⟨rfl, Below.refl _ _⟩
    · have e : shard a0 a1 = Mur.murmur (bytesOf a0) 0 % a1 := if_neg hn
      rw [e]
      obtain ⟨cap, W1, hrun, hcap, hb, hC⟩ := conv_string w a0 h0
      have HCAP := Aside0.mk hcap
      have HB := Aside0.mk hb
      have HC := Aside0.mk hC
      have HE := Aside0.mk e
      have hm := Mur.murmur_W (bytesOf a0) 0
      have hf : thermographref04_Murmur.f (bytesOf a0) 0 = some (Mur.murmur (bytesOf a0) 0) := murmur_some a0 h0
      have HF := Aside0.mk hf
      clear hcap hb hC e hf HS
      obtain ⟨m0, m1⟩ := hm
      go_enter Try.func10, Try.ntmps10
      go_wp2_with fail
      with_reducible refine (thermographref04_Murmur.calls _ cap (bytesOf a0) 0 _ W1 HC.out HCAP.out HF.out).mono ?_
      rintro e w1 ⟨rfl, hb1⟩
      go_wp2
      go_ret
      exact ⟨rfl, below_step HB.out hb1.below⟩
  · cases h
end Go.Proofs.Ytcppajpkllfpmaa.X
