/- The document's Put, walked. -/
import Derived.Test.YtclbmgnpgjhlhaaIecPut
import Derived.Test.YtclbmgnpgjhlhaaIecPlain
import Derived.Test.YtclbmgnpgjhlhaaIecRef4
import Derived.BigQuiet
import Derived.Deep.QuietTactic
namespace Go.Proofs.Ytclbmgnpgjhlhaa
open Go.RowKit
/-- A value, from 0 on. -/
def posK (k : Nat) (v : Int) : Int := if wrapK k v < 0 then wrapK k v + manyK k else wrapK k v
theorem posK_in (k : Nat) (v : Int) : 0 ≤ posK k v ∧ posK k v ≤ 4294967295 := by
  unfold posK
  match k with
  | 0 => simp [wrapK]
  | 1 => simp only [wrapK]; split <;> split <;> simp_all
  | 2 => simp only [wrapK, manyK]; split <;> omega
  | 3 => simp only [wrapK, manyK]; split <;> omega
  | 4 => simp only [wrapK, manyK]; split <;> omega
  | 5 => simp only [wrapK, manyK]; split <;> omega
  | 6 => simp only [wrapK, manyK]; split <;> omega
  | 7 => simp only [wrapK, manyK]; split <;> omega
  | n + 8 => simp [wrapK]
theorem beB_pos (k : Nat) (hk : 1 ≤ k ∧ k ≤ 7) (v : Int) (n : Nat) (hn : sizeK k = (n : Int)) : beB n (posK k v) = beB n (wrapK k v) := by
  unfold posK
  split
  · next h =>
    rcases (by omega : k = 1 ∨ k = 2 ∨ k = 3 ∨ k = 4 ∨ k = 5 ∨ k = 6 ∨ k = 7) with rfl | rfl | rfl | rfl | rfl | rfl | rfl
    · simp only [wrapK] at h; split at h <;> omega
    · obtain rfl : n = 1 := by simp [sizeK] at hn; omega
      simp only [beB, manyK]
      congr 3
      simp
    · obtain rfl : n = 2 := by simp [sizeK] at hn; omega
      generalize wrapK 3 v = u
      have e1 : ((u + 65536) / (256 ^ 1 : Nat)) % 256 = (u / (256 ^ 1 : Nat)) % 256 := by omega
      have e0 : ((u + 65536) / (256 ^ 0 : Nat)) % 256 = (u / (256 ^ 0 : Nat)) % 256 := by omega
      simp only [beB, manyK]
      rw [e1, e0]
    · obtain rfl : n = 4 := by simp [sizeK] at hn; omega
      generalize wrapK 4 v = u
      have e3 : ((u + 4294967296) / (256 ^ 3 : Nat)) % 256 = (u / (256 ^ 3 : Nat)) % 256 := by omega
      have e2 : ((u + 4294967296) / (256 ^ 2 : Nat)) % 256 = (u / (256 ^ 2 : Nat)) % 256 := by omega
      have e1 : ((u + 4294967296) / (256 ^ 1 : Nat)) % 256 = (u / (256 ^ 1 : Nat)) % 256 := by omega
      have e0 : ((u + 4294967296) / (256 ^ 0 : Nat)) % 256 = (u / (256 ^ 0 : Nat)) % 256 := by omega
      simp only [beB, manyK]
      rw [e3, e2, e1, e0]
    all_goals
      simp only [wrapK] at h
      omega
  · rfl
theorem str_cons (c : UInt8) (l : List UInt8) : (⟨#[c]⟩ : ByteArray) ++ (⟨l.toArray⟩ : ByteArray) = ⟨(c :: l).toArray⟩ := by
  apply ext_bytes
  simp [ByteArray.data_append]
theorem str_put (s : ByteArray) (a : Nat) (l : List UInt8) (h : a + l.length ≤ s.size) : s.extract 0 a ++ (⟨l.toArray⟩ : ByteArray) ++ s.extract (a + l.length) s.size = textOf (putAt s.data.toList a l) := by
  apply ext_bytes
  have hl : s.data.toList.length = s.size := by simp
  simp only [textOf, putAt, ByteArray.data_append, ByteArray.data_extract, Array.toList_append, Array.toList_extract, List.extract, List.drop_zero, Nat.sub_zero]
  congr 1
  rw [List.take_of_length_le (by simp)]
theorem bel_drewN {B : Nat} {a w : World} (h : Below B a w) (n : Nat) : Below B a (w.drewN n) := ⟨h.os, h.tape, h.output, h.size, h.block⟩
theorem one_string (w : World) (c : Int) (h : 0 ≤ c ∧ c ≤ 255) : (convert 36 9 (.slice (some ⟨w.heap.size, 0, none⟩) 1 1)).run Try.prog (w.alloc (.cells #[.int .u8 c] 5)) = .ok (.string ⟨#[UInt8.ofNat c.toNat]⟩) (w.alloc (.cells #[.int .u8 c] 5)) := by
  have ho := ObjAt.new w #[.int .u8 c] 5
  have hc : ((UInt8.ofNat c.toNat).toNat : Int) = c := by rw [UInt8.toNat_ofNat']; omega
  have hr : RowAt (w.alloc (.cells #[.int .u8 c] 5)) w.heap.size [UInt8.ofNat c.toNat] := by
    refine ⟨ho.lt, fun j hj => ?_, fun j hj => ho.free j⟩
    obtain rfl : j = 0 := by simp at hj; omega
    rw [ho.cell 0]
    show some (Value.int .u8 c) = some (Value.int .u8 ((UInt8.ofNat c.toNat).toNat : Int))
    rw [hc]
  exact row_string hr 0 1 1 (by simp)
set_option maxRecDepth 100000 in
set_option maxHeartbeats 1000000 in
theorem rput_yes (s : ByteArray) (a n : Nat) (k v : Int) (hs : s.size ≤ 1000) (hn : sizeK (kN k) = (n : Int)) (ht : 0 < n ∧ n ≤ 4 ∧ a + n ≤ s.size) (w : World) :
    Calls Try.prog 24 #[.string s, .int .i64 (a : Int), .int .i64 k, .int .i64 v] w fun e w' => e = .returned (.string (textOf (putAt s.data.toList a (beB n (wrapK (kN k) v))))) ∧ Below w.heap.size w w' := by
  obtain ⟨hn0, hn4, hfit⟩ := ht
  have hk0 : 1 ≤ kN k ∧ kN k ≤ 7 := by
    rcases kN_cases k with rfl | rfl | rfl | rfl | rfl | rfl | rfl | ⟨hk, h0⟩
    all_goals first | decide | (rw [h0] at hn; simp [sizeK] at hn; omega)
  have hpos := posK_in (kN k) v
  have hpb := beB_pos (kN k) hk0 v n hn
  have hW : posK (kN k) v = if wrapK (kN k) v < 0 then wrapK (kN k) v + manyK (kN k) else wrapK (kN k) v := rfl
  have hWi := wrapK_in (kN k) v
  unfold In40 at hWi
  have HN := Lib.hid (And.intro hn (And.intro hpb hW))
  clear hn hpb hW hk0
  obtain ⟨V, hV⟩ : ∃ V, wrapK (kN k) v = V := ⟨_, rfl⟩
  obtain ⟨U, hU⟩ : ∃ U, posK (kN k) v = U := ⟨_, rfl⟩
  rw [hV] at hWi
  rw [hU] at hpos
  have HV := Lib.hid (And.intro hV hU)
  clear hV hU
  have hb0 := Lib.hid (Below.refl w.heap.size w)
  go_enter Try.func24, Try.ntmps24
  go_wp2_with fail
  refine (rwrap_any k v _).mono ?_
  rintro e w1 ⟨rfl, hb1⟩
  rw [HV.out.1]
  have HB1 := Lib.hid hb1
  clear hb1
  by_cases hneg : V < 0
  · have hM : V + manyK (kN k) = U := by have := HN.out.2.2; rw [HV.out.1, HV.out.2, if_pos hneg] at this; exact this.symm
    obtain ⟨M, hMM⟩ : ∃ M, manyK (kN k) = M := ⟨_, rfl⟩
    rw [hMM] at hM
    have HMM := Lib.hid (And.intro hMM hM)
    have hlo : -9223372036854775808 ≤ V + M := by omega
    have hhi : V + M ≤ 9223372036854775807 := by omega
    clear hMM hM
    go_wp2_with fail
    refine (rmany_any k _).mono ?_
    rintro e w2 ⟨rfl, hb2⟩
    rw [HMM.out.1]
    have HB2 := Lib.hid (bt HB1.out hb2)
    clear hb2
    go_wp2_with fail
    rw [HMM.out.2]
    have HBX := Lib.hid HB2.out
    go_loopw [9, 10, 11] (fun x s i wr => ∃ j : Nat, j ≤ n ∧ i = .int .i64 (j : Int) ∧ x = .int .i64 (U / (256 ^ j : Nat)) ∧ s = .string ⟨(beB j U).toArray⟩ ∧ Below w.heap.size w wr) (fun _ _ i _ => n - (intOf i).toNat)
    case atStart => exact ⟨0, Nat.zero_le _, rfl, by simp, rfl, HBX.out⟩
    case round =>
      obtain ⟨j, hj, rfl, rfl, rfl, hb⟩ := hrel
      have HB := Lib.hid hb
      clear hb
      go_wp2_with fail
      refine (rsize_any k _).mono ?_
      rintro e w3 ⟨rfl, hb3⟩
      rw [HN.out.1]
      have HB3 := Lib.hid (bt HB.out hb3)
      clear hb3
      by_cases hlt : j < n
      · have hlt2 : (j : Int) < (n : Int) := by omega
        obtain ⟨u, hu⟩ : ∃ u, U / (256 ^ j : Nat) = u := ⟨_, rfl⟩
        have hub : 0 ≤ u ∧ u ≤ 4294967295 := by
          rw [← hu]
          have hp : (0 : Int) < ((256 ^ j : Nat) : Int) := by have : 0 < 256 ^ j := Nat.pow_pos (by decide); omega
          exact ⟨Int.ediv_nonneg hpos.1 (by omega), Int.le_trans (Int.ediv_le_self _ hpos.1) hpos.2⟩
        rw [hu]
        have HU := Lib.hid hu
        have hsz : (beB j U).length = j := beB_length j U
        generalize hS : beB j U = S at *
        have hcv := one_string w3 (u % 256) (by omega)
        have HS := Lib.hid hS
        have hz1 : (⟨S.toArray⟩ : ByteArray).size = j := by rw [show (⟨S.toArray⟩ : ByteArray).size = S.length from by simp [ByteArray.size], hsz]
        clear hu hS
        go_wp2
        go_roundw
        case rel =>
          refine ⟨j + 1, hlt, by go_num, ?_, ?_, HB3.out.alloc HB3.out.size _⟩
          · rw [← HU.out, Int.ediv_ediv_of_nonneg (by exact Int.natCast_nonneg _), Nat.pow_succ]
            rfl
          · rw [str_cons]
            have : beB (j + 1) U = UInt8.ofNat (u % 256).toNat :: S := by rw [← HU.out, ← HS.out]; rfl
            rw [this]
        case measure => simp [intOf]; omega
      · obtain rfl : j = n := by omega
        have hsz : (beB j U).length = j := beB_length j U
        have hfin := str_put s a (beB j U) (by omega)
        rw [hsz, ← HV.out.2, HN.out.2.1] at hfin
        have HF := Lib.hid hfin
        have hz1 : (⟨(beB j U).toArray⟩ : ByteArray).size = j := by rw [show (⟨(beB j U).toArray⟩ : ByteArray).size = (beB j U).length from by simp [ByteArray.size], hsz]
        have hq : beB j (wrapK (kN k) v) = beB j U := by rw [← HV.out.2, HN.out.2.1]
        have HQ := Lib.hid hq
        clear hfin hsz hq
        obtain ⟨T, hT⟩ : ∃ T, (⟨(beB j U).toArray⟩ : ByteArray) = T := ⟨_, rfl⟩
        rw [hT] at hz1
        rw [hT]
        have HT := Lib.hid hT
        clear hT
        have q1 : IntKind.i64.wrap ((a : Int) + (j : Int)) = (a : Int) + (j : Int) := IntWalk.i64_in _ (by omega)
        have q2 : (0 : Int) ≤ (a : Int) + (j : Int) := by omega
        have q3 : ((a : Int) + (j : Int)).toNat = a + j := by omega
        have q4 : (a : Int) + (j : Int) ≤ (s.size : Int) := by omega
        have q5 : (a : Int) ≤ (s.size : Int) := by omega
        go_wp2_with fail
        go_quiet (fail)
        go_wp2
        go_ret
        refine ⟨ret_str ?_, bel_drewN HB3.out _⟩
        rw [← HF.out, HQ.out, HT.out]
  · have hM : U = V := by have := HN.out.2.2; rw [HV.out.1, HV.out.2, if_neg hneg] at this; exact this
    subst hM
    go_wp2_with fail
    have HBX := Lib.hid HB1.out
    go_loopw [9, 10, 11] (fun x s i wr => ∃ j : Nat, j ≤ n ∧ i = .int .i64 (j : Int) ∧ x = .int .i64 (U / (256 ^ j : Nat)) ∧ s = .string ⟨(beB j U).toArray⟩ ∧ Below w.heap.size w wr) (fun _ _ i _ => n - (intOf i).toNat)
    case atStart => exact ⟨0, Nat.zero_le _, rfl, by simp, rfl, HBX.out⟩
    case round =>
      obtain ⟨j, hj, rfl, rfl, rfl, hb⟩ := hrel
      have HB := Lib.hid hb
      clear hb
      go_wp2_with fail
      refine (rsize_any k _).mono ?_
      rintro e w3 ⟨rfl, hb3⟩
      rw [HN.out.1]
      have HB3 := Lib.hid (bt HB.out hb3)
      clear hb3
      by_cases hlt : j < n
      · have hlt2 : (j : Int) < (n : Int) := by omega
        obtain ⟨u, hu⟩ : ∃ u, U / (256 ^ j : Nat) = u := ⟨_, rfl⟩
        have hub : 0 ≤ u ∧ u ≤ 4294967295 := by
          rw [← hu]
          have hp : (0 : Int) < ((256 ^ j : Nat) : Int) := by have : 0 < 256 ^ j := Nat.pow_pos (by decide); omega
          exact ⟨Int.ediv_nonneg hpos.1 (by omega), Int.le_trans (Int.ediv_le_self _ hpos.1) hpos.2⟩
        rw [hu]
        have HU := Lib.hid hu
        have hsz : (beB j U).length = j := beB_length j U
        generalize hS : beB j U = S at *
        have hcv := one_string w3 (u % 256) (by omega)
        have HS := Lib.hid hS
        have hz1 : (⟨S.toArray⟩ : ByteArray).size = j := by rw [show (⟨S.toArray⟩ : ByteArray).size = S.length from by simp [ByteArray.size], hsz]
        clear hu hS
        go_wp2
        go_roundw
        case rel =>
          refine ⟨j + 1, hlt, by go_num, ?_, ?_, HB3.out.alloc HB3.out.size _⟩
          · rw [← HU.out, Int.ediv_ediv_of_nonneg (by exact Int.natCast_nonneg _), Nat.pow_succ]
            rfl
          · rw [str_cons]
            have : beB (j + 1) U = UInt8.ofNat (u % 256).toNat :: S := by rw [← HU.out, ← HS.out]; rfl
            rw [this]
        case measure => simp [intOf]; omega
      · obtain rfl : j = n := by omega
        have hsz : (beB j U).length = j := beB_length j U
        have hfin := str_put s a (beB j U) (by omega)
        rw [hsz, ← HV.out.2, HN.out.2.1] at hfin
        have HF := Lib.hid hfin
        have hz1 : (⟨(beB j U).toArray⟩ : ByteArray).size = j := by rw [show (⟨(beB j U).toArray⟩ : ByteArray).size = (beB j U).length from by simp [ByteArray.size], hsz]
        have hq : beB j (wrapK (kN k) v) = beB j U := by rw [← HV.out.2, HN.out.2.1]
        have HQ := Lib.hid hq
        clear hfin hsz hq
        obtain ⟨T, hT⟩ : ∃ T, (⟨(beB j U).toArray⟩ : ByteArray) = T := ⟨_, rfl⟩
        rw [hT] at hz1
        rw [hT]
        have HT := Lib.hid hT
        clear hT
        have q1 : IntKind.i64.wrap ((a : Int) + (j : Int)) = (a : Int) + (j : Int) := IntWalk.i64_in _ (by omega)
        have q2 : (0 : Int) ≤ (a : Int) + (j : Int) := by omega
        have q3 : ((a : Int) + (j : Int)).toNat = a + j := by omega
        have q4 : (a : Int) + (j : Int) ≤ (s.size : Int) := by omega
        have q5 : (a : Int) ≤ (s.size : Int) := by omega
        go_wp2_with fail
        go_quiet (fail)
        go_wp2
        go_ret
        refine ⟨ret_str ?_, bel_drewN HB3.out _⟩
        rw [← HF.out, HQ.out, HT.out]
end Go.Proofs.Ytclbmgnpgjhlhaa
