/- Put into a row of whatever capacity. -/
import Derived.Test.YtclbmgnpgjhlhaaIecPut
namespace Go.Proofs.Ytclbmgnpgjhlhaa
open Go.RowKit
set_option maxRecDepth 100000 in
set_option maxHeartbeats 2000000 in
theorem put_big (g : Nat) (l : List UInt8) (cap a : Nat) (k v : Int) (hL : l.length ≤ cap) (hc : cap ≤ 9223372036854775807) (hlen : l.length ≤ 1000) (ht : thereB (l.length : Int) (a : Int) (sizeK (kN k)) = true) (w : World) (hR : RowAt w g l) :
    Calls Try.prog 22 #[.slice (some ⟨g, 0, none⟩) l.length cap, .int .i64 (a : Int), .int .i64 k, .int .i64 v] w fun e w' =>
      e = .returned (.bool true) ∧ RowAt w' g (putAt l a (beB (sizeK (kN k)).toNat (wrapK (kN k) v))) ∧ Keep (· = g) w w' := by
  have hbd := sizeK_bd (kN k)
  have HT := Lib.hid ht
  simp [thereB] at ht
  obtain ⟨n, hn⟩ : ∃ n : Nat, sizeK (kN k) = (n : Int) := ⟨(sizeK (kN k)).toNat, by omega⟩
  obtain ⟨V, hV⟩ : ∃ V, V = wrapK (kN k) v := ⟨_, rfl⟩
  have hin := wrapK_in (kN k) v
  rw [← hV] at hin
  rw [hn] at ht hbd
  have HN := Lib.hid hn
  have HV := Lib.hid hV
  have HIN := Lib.hid hin
  have HR := Lib.hid hR
  clear hn hV hin hR
  go_enter Try.func22, Try.ntmps22
  go_wp2_with fail
  refine (there_any (l.length : Int) (a : Int) k (by omega) (by omega) _).mono ?_
  rintro e w1 ⟨rfl, hb1⟩
  rw [HT.out]
  go_wp2_with fail
  refine (wrap_any k v _).mono ?_
  rintro e w2 ⟨rfl, hb2⟩
  rw [← HV.out]
  go_wp2_with fail
  refine (size_any k _).mono ?_
  rintro e w3 ⟨rfl, hb3⟩
  rw [HN.out]
  have hK3 : Keep (· = g) w w3 := Keep.of_below (bt (bt hb1 hb2) hb3)
  have hR3 : RowAt w3 g l := HR.out.keep (Keep.of_below (S := fun _ => False) (bt (bt hb1 hb2) hb3)) (by simp)
  have HK := Lib.hid (And.intro hK3 hR3)
  clear hb1 hb2 hb3 hK3 hR3
  go_wp2_with fail
  go_loopw [3, 9] (fun u i wr => PutR g l a n V w u i wr) (fun _ i _ => (intOf i + 1).toNat)
  case atStart =>
    refine ⟨0, Nat.zero_le _, by simp, by simp, ?_, HK.out.1⟩
    have e : putAt l (a + (n - 0)) (beB 0 V) = l := by simp [putAt, beB]
    rw [e]
    exact HK.out.2
  case round =>
    obtain ⟨j, hle, rfl, rfl, hrow, hkeep⟩ := hrel
    by_cases hj : j < n
    · obtain ⟨m, hm⟩ : ∃ m : Nat, (n : Int) - 1 - j = (m : Int) := ⟨n - 1 - j, by omega⟩
      have hmn : n - j = m + 1 := by omega
      rw [hmn] at hrow
      rw [hm]
      have hdin := div_in HIN.out j
      obtain ⟨u, hu⟩ : ∃ u, u = V / (256 ^ j : Nat) := ⟨_, rfl⟩
      rw [← hu] at hdin
      rw [← hu]
      unfold In40 at hdin
      have hfit : a + m + 1 + (beB j V).length ≤ l.length := by rw [beB_length]; omega
      have hlen : (putAt l (a + (m + 1)) (beB j V)).length = l.length := putAt_length _ _ _ (by rw [← Nat.add_assoc]; exact hfit)
      have hset := hrow.set1 (a + m) (UInt8.ofNat (u % 256).toNat) (by rw [hlen]; omega)
      rw [← Nat.add_assoc, putAt_cons l (a + m) _ (beB j V) hfit, show (UInt8.ofNat (u % 256).toNat :: beB j V) = beB (j + 1) V by rw [hu]; rfl,
        show (((UInt8.ofNat (u % 256).toNat).toNat : Nat) : Int) = u % 256 by rw [UInt8.toNat_ofNat']; omega] at hset
      have y1 : ∃ c, wr.cell? ⟨g, a + m, none⟩ = some c := ⟨_, hrow.2.1 (a + m) (by rw [hlen]; omega)⟩
      obtain ⟨c1, y1⟩ := y1
      have y0 : wr.frozen? ⟨g, a + m, none⟩ = false := hrow.2.2 (a + m) (by rw [hlen]; omega)
      have HS := Lib.hid (And.intro hset (hkeep.here (a + m) (.int .u8 (u % 256))))
      have k1 : a + m < l.length := by omega
      have k2 : m ≤ 4 := by omega
      have HU := Lib.hid hu
      have HM := Lib.hid (And.intro hm hmn)
      clear hset hu hm hmn hrow hkeep hfit hlen
      go_wp2
      go_roundw
      case rel =>
        refine ⟨j + 1, ⟨by omega, ?_, ?_, ?_, HS.out.2⟩⟩
        · have := HM.out.1
          rw [show (m : Int) - 1 = (n : Int) - 1 - ((j + 1 : Nat) : Int) by omega]
        · rw [HU.out, Int.ediv_ediv_of_nonneg (by exact Int.natCast_nonneg _), Nat.pow_succ]
          try rfl
        · rw [show n - (j + 1) = m by have := HM.out.2; omega]
          exact HS.out.1
      case measure => simp [intOf] <;> omega
    · obtain rfl : j = n := by omega
      rw [Nat.sub_self, Nat.add_zero] at hrow
      have HS := Lib.hid (And.intro hrow hkeep)
      have hneg : ¬ (0 : Int) ≤ (j : Int) - 1 - j := by omega
      clear hrow hkeep
      go_wp2
      go_ret
      refine ⟨rfl, ?_, HS.out.2⟩
      have := HS.out.1
      rw [HV.out] at this
      rw [HN.out]
      exact this
end Go.Proofs.Ytclbmgnpgjhlhaa
