/- Put of the program, walked. -/
import Derived.Test.YtclbmgnpgjhlhaaIecThere
import Derived.Outline
namespace Go.Proofs.Ytclbmgnpgjhlhaa
open Go.RowKit
/-- The last bytes of a number, the highest one first. -/
def beB : Nat → Int → List UInt8
  | 0, _ => []
  | j + 1, v => UInt8.ofNat ((v / (256 ^ j : Nat)) % 256).toNat :: beB j v
theorem beB_length (j : Nat) (v : Int) : (beB j v).length = j := by induction j with | zero => rfl | succ j ih => simp [beB, ih]
theorem putAt_cons (l : List UInt8) (b : Nat) (c : UInt8) (t : List UInt8) (h : b + 1 + t.length ≤ l.length) : putAt (putAt l (b + 1) t) b [c] = putAt l b (c :: t) := by
  unfold putAt
  have e1 : (l.take (b + 1) ++ t ++ l.drop (b + 1 + t.length)).take b = l.take b := by
    rw [List.append_assoc, List.take_append_of_le_length (by simp; omega), List.take_take, Nat.min_eq_left (by omega)]
  have e2 : (l.take (b + 1) ++ t ++ l.drop (b + 1 + t.length)).drop (b + 1) = t ++ l.drop (b + 1 + t.length) := by
    have h1 : (l.take (b + 1)).length = b + 1 := by simp; omega
    rw [List.append_assoc]
    conv => lhs; arg 1; rw [← h1]
    rw [List.drop_left]
  rw [show b + [c].length = b + 1 from rfl, e1, e2, show b + (c :: t).length = b + 1 + t.length by simp; omega]
  simp
def In40 (v : Int) : Prop := -4294967296 ≤ v ∧ v ≤ 4294967296
theorem wrapK_in (k : Nat) (v : Int) : In40 (wrapK k v) := by
  unfold wrapK In40
  split
  · split <;> omega
  all_goals omega
theorem div_in {v : Int} (h : In40 v) (j : Nat) : In40 (v / (256 ^ j : Nat)) := by
  have hp : 0 < 256 ^ j := Nat.pow_pos (by decide)
  generalize 256 ^ j = p at *
  unfold In40 at *
  have hp' : (1 : Int) ≤ (p : Int) := by omega
  have h1 := Int.mul_ediv_add_emod v (p : Int)
  have h2 := Int.emod_nonneg v (show (p : Int) ≠ 0 by omega)
  have h3 := Int.emod_lt_of_pos v (show (0 : Int) < (p : Int) by omega)
  generalize v / (p : Int) = q at *
  generalize v % (p : Int) = r at *
  rcases Int.le_total 0 q with h0 | h0
  · have := Int.mul_le_mul_of_nonneg_right hp' h0
    omega
  · by_cases hq : q = 0
    · omega
    · have := Int.mul_le_mul_of_nonpos_right hp' (show q + 1 ≤ 0 by omega)
      rw [Int.mul_add] at this
      omega
set_option maxRecDepth 100000 in
theorem put_no (g : Nat) (L cap : Nat) (a k v : Int) (hL : L ≤ 140737488355328) (ha : -9223372036854775808 ≤ a ∧ a ≤ 9223372036854775807) (ht : thereB (L : Int) a (sizeK (kN k)) = false) (w : World) :
    Calls Try.prog 22 #[.slice (some ⟨g, 0, none⟩) L cap, .int .i64 a, .int .i64 k, .int .i64 v] w (RetB false w) := by
  have HT := Lib.hid ht
  clear ht
  go_enter Try.func22, Try.ntmps22
  go_wp2_with fail
  refine (there_any (L : Int) a k (by omega) ha _).mono ?_
  rintro e w1 ⟨rfl, hb1⟩
  rw [HT.out]
  go_wp2
  go_ret
  exact ⟨rfl, hb1⟩
structure PutRel (g : Nat) (l : List UInt8) (a n : Nat) (V : Int) (w0 wr : World) (u i : Value) (j : Nat) : Prop where
  le : j ≤ n
  hi : i = .int .i64 ((n : Int) - 1 - j)
  hu : u = .int .i64 (V / (256 ^ j : Nat))
  row : RowAt wr g (putAt l (a + (n - j)) (beB j V))
  keep : Keep (· = g) w0 wr
def PutR (g : Nat) (l : List UInt8) (a n : Nat) (V : Int) (w0 : World) (u i : Value) (wr : World) : Prop := ∃ j, PutRel g l a n V w0 wr u i j
set_option maxRecDepth 100000 in
set_option maxHeartbeats 2000000 in
theorem put_yes (g : Nat) (l : List UInt8) (cap a : Nat) (k v : Int) (hL : l.length ≤ cap) (hc : cap ≤ 140737488355328) (ht : thereB (l.length : Int) (a : Int) (sizeK (kN k)) = true) (w : World) (hR : RowAt w g l) :
    Calls Try.prog 22 #[.slice (some ⟨g, 0, none⟩) l.length cap, .int .i64 (a : Int), .int .i64 k, .int .i64 v] w fun e w' =>
      e = .returned (.bool true) ∧ RowAt w' g (putAt l a (beB (sizeK (kN k)).toNat (wrapK (kN k) v))) ∧ Keep (· = g) w w' := by
  have hbd := sizeK_bd (kN k)
  have HT := Lib.hid ht
  simp [thereB] at ht
  obtain ⟨n, hn⟩ : ∃ n : Nat, sizeK (kN k) = (n : Int) := ⟨(sizeK (kN k)).toNat, by omega⟩
  obtain ⟨V, hV⟩ : ∃ V, V = wrapK (kN k) v := ⟨_, rfl⟩
  have hin := wrapK_in (kN k) v
  rw [← hV] at hin
  rw [hn] at ht hbd
  have HN := Lib.hid hn
  have HV := Lib.hid hV
  have HIN := Lib.hid hin
  have HR := Lib.hid hR
  clear hn hV hin hR
  go_enter Try.func22, Try.ntmps22
  go_wp2_with fail
  refine (there_any (l.length : Int) (a : Int) k (by omega) (by omega) _).mono ?_
  rintro e w1 ⟨rfl, hb1⟩
  rw [HT.out]
  go_wp2_with fail
  refine (wrap_any k v _).mono ?_
  rintro e w2 ⟨rfl, hb2⟩
  rw [← HV.out]
  go_wp2_with fail
  refine (size_any k _).mono ?_
  rintro e w3 ⟨rfl, hb3⟩
  rw [HN.out]
  have hK3 : Keep (· = g) w w3 := Keep.of_below (bt (bt hb1 hb2) hb3)
  have hR3 : RowAt w3 g l := HR.out.keep (Keep.of_below (S := fun _ => False) (bt (bt hb1 hb2) hb3)) (by simp)
  have HK := Lib.hid (And.intro hK3 hR3)
  clear hb1 hb2 hb3 hK3 hR3
  go_wp2_with fail
  go_loopw [3, 9] (fun u i wr => PutR g l a n V w u i wr) (fun _ i _ => (intOf i + 1).toNat)
  case atStart =>
    refine ⟨0, Nat.zero_le _, by simp, by simp, ?_, HK.out.1⟩
    have e : putAt l (a + (n - 0)) (beB 0 V) = l := by simp [putAt, beB]
    rw [e]
    exact HK.out.2
  case round =>
    obtain ⟨j, hle, rfl, rfl, hrow, hkeep⟩ := hrel
    by_cases hj : j < n
    · obtain ⟨m, hm⟩ : ∃ m : Nat, (n : Int) - 1 - j = (m : Int) := ⟨n - 1 - j, by omega⟩
      have hmn : n - j = m + 1 := by omega
      rw [hmn] at hrow
      rw [hm]
      have hdin := div_in HIN.out j
      obtain ⟨u, hu⟩ : ∃ u, u = V / (256 ^ j : Nat) := ⟨_, rfl⟩
      rw [← hu] at hdin
      rw [← hu]
      unfold In40 at hdin
      have hfit : a + m + 1 + (beB j V).length ≤ l.length := by rw [beB_length]; omega
      have hlen : (putAt l (a + (m + 1)) (beB j V)).length = l.length := putAt_length _ _ _ (by rw [← Nat.add_assoc]; exact hfit)
      have hset := hrow.set1 (a + m) (UInt8.ofNat (u % 256).toNat) (by rw [hlen]; omega)
      rw [← Nat.add_assoc, putAt_cons l (a + m) _ (beB j V) hfit, show (UInt8.ofNat (u % 256).toNat :: beB j V) = beB (j + 1) V by rw [hu]; rfl,
        show (((UInt8.ofNat (u % 256).toNat).toNat : Nat) : Int) = u % 256 by rw [UInt8.toNat_ofNat']; omega] at hset
      have y1 : ∃ c, wr.cell? ⟨g, a + m, none⟩ = some c := ⟨_, hrow.2.1 (a + m) (by rw [hlen]; omega)⟩
      obtain ⟨c1, y1⟩ := y1
      have y0 : wr.frozen? ⟨g, a + m, none⟩ = false := hrow.2.2 (a + m) (by rw [hlen]; omega)
      have HS := Lib.hid (And.intro hset (hkeep.here (a + m) (.int .u8 (u % 256))))
      have k1 : a + m < l.length := by omega
      have k2 : m ≤ 4 := by omega
      have HU := Lib.hid hu
      have HM := Lib.hid (And.intro hm hmn)
      clear hset hu hm hmn hrow hkeep hfit hlen
      go_wp2
      go_roundw
      case rel =>
        refine ⟨j + 1, ⟨by omega, ?_, ?_, ?_, HS.out.2⟩⟩
        · have := HM.out.1
          rw [show (m : Int) - 1 = (n : Int) - 1 - ((j + 1 : Nat) : Int) by omega]
        · rw [HU.out, Int.ediv_ediv_of_nonneg (by exact Int.natCast_nonneg _), Nat.pow_succ]
          try rfl
        · rw [show n - (j + 1) = m by have := HM.out.2; omega]
          exact HS.out.1
      case measure => simp [intOf] <;> omega
    · obtain rfl : j = n := by omega
      rw [Nat.sub_self, Nat.add_zero] at hrow
      have HS := Lib.hid (And.intro hrow hkeep)
      have hneg : ¬ (0 : Int) ≤ (j : Int) - 1 - j := by omega
      clear hrow hkeep
      go_wp2
      go_ret
      refine ⟨rfl, ?_, HS.out.2⟩
      have := HS.out.1
      rw [HV.out] at this
      rw [HN.out]
      exact this
end Go.Proofs.Ytclbmgnpgjhlhaa
