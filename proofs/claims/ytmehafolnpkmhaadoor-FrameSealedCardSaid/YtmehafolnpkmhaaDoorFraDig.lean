/- The reference's Digits. -/
import Derived.Test.YtmehafolnpkmhaaDoorFraRep
import Derived.Test.YtmehafolnpkmhaaDoorLaidF
namespace Go.Proofs.YtmehafolnpkmhaaDoor
open Go.RowKit
theorem dec_len' : ∀ (k n : Nat), n < 10 ^ (k + 1) → (Lib.decDigits n).length ≤ k + 1
  | 0, n, h => by rw [Lib.decDigits_one (by omega)]; exact Nat.le_refl _
  | k + 1, n, h => by
    rw [Lib.decDigits]
    split
    · simp
    · have := dec_len' k (n / 10) (by rw [Nat.pow_succ] at h; omega)
      simp
      omega
theorem one_byte (x : Int) : strOfNums [x] = (⟨[UInt8.ofNat x.toNat].toArray⟩ : ByteArray) := by
  apply ext_bytes
  rw [strOfNums_data]
  rfl
set_option maxRecDepth 100000 in
theorem digits_any (n : Nat) (hn : n < 4294967296) (w : World) :
    Calls Tryd.prog 61 #[.int .i64 (n : Int)] w fun e w' => e = .returned (.string ⟨(Lib.decDigits n).toArray⟩) ∧ Below w.heap.size w w' := by
  have hlen := dec_len' 9 n (by omega)
  go_enter Tryd.func61, Tryd.ntmps61
  go_wp2
  go_loopw [0, 3] (fun m s wr => ∃ (k : Nat) (l : List UInt8), k ≤ n ∧ m = .int .i64 (k : Int) ∧ s = .string ⟨l.toArray⟩ ∧ Lib.decDigits k ++ l = Lib.decDigits n ∧ Below w.heap.size w wr) (fun m _ _ => (intOf m).toNat)
  case atStart => exact ⟨n, [], by omega, rfl, rfl, by simp, Below.refl _ _⟩
  case round =>
    obtain ⟨k, l, hk, rfl, rfl, hd, hbel⟩ := hrel
    have hll : l.length ≤ 10 := by
      have := congrArg List.length hd
      simp only [List.length_append] at this
      omega
    have hz2 := str_size l
    have HD := Lib.hid hd
    clear hd
    by_cases hlt : 10 ≤ (k : Int)
    · have hl := lit1_string wr
      have hz1 : ∀ x : Int, (strOfNums [x]).size = 1 := fun x => rfl
      have hstep : Lib.decDigits k = Lib.decDigits (k / 10) ++ [UInt8.ofNat (48 + k % 10)] := by
        conv => lhs; rw [Lib.decDigits, dif_neg (by omega)]
      have HS := Lib.hid hstep
      clear hstep
      go_wp2
      refine ⟨⟨k / 10, UInt8.ofNat (48 + k % 10) :: l, by omega, by congr 1, ?_, ?_, hbel.alloc hbel.size _⟩, ?_⟩
      · rw [one_byte, show (48 + (k : Int) % 10) = ((48 + k % 10 : Nat) : Int) by omega, Int.toNat_natCast, str_add]
        rfl
      · rw [← HD.out, HS.out]
        simp
      · simp [intOf]
        omega
    · have hl := lit1_string wr
      have hz1 : ∀ x : Int, (strOfNums [x]).size = 1 := fun x => rfl
      go_wp2
      go_ret
      refine ⟨?_, hbel.alloc hbel.size _⟩
      rw [← HD.out, Lib.decDigits_one (show k < 10 by omega), one_byte, show (48 + (k : Int)) = ((48 + k : Nat) : Int) by omega, Int.toNat_natCast, str_add]
      rfl
/-- Digits. -/
def dgB (n : Int) : ByteArray := ⟨(Lib.decDigits n.toNat).toArray⟩
theorem dgB_size {n : Int} (h : n < 4294967296) : (dgB n).size ≤ 10 := by
  unfold dgB
  rw [str_size]
  exact dec_len' 9 n.toNat (by omega)
theorem digits_int (n : Int) (h : 0 ≤ n ∧ n < 4294967296) (d : ByteArray) (hd : d = dgB n) (w : World) :
    Calls Tryd.prog 61 #[.int .i64 n] w fun e w' => e = .returned (.string d) ∧ Below w.heap.size w w' := by
  obtain ⟨m, rfl⟩ := Int.eq_ofNat_of_zero_le h.1
  rw [hd]
  exact digits_any m (by omega) w
theorem itoa_int (n : Int) (h : 0 ≤ n ∧ n < 4294967296) (d : ByteArray) (hd : d = dgB n) (w : World) (hL : LaidW w) :
    Calls Tryd.prog 59 #[.int .i64 n] w fun e w' => e = .returned (.string d) ∧ Below w.heap.size w w' := by
  obtain ⟨m, rfl⟩ := Int.eq_ofNat_of_zero_le h.1
  rw [hd]
  unfold dgB
  rw [Int.toNat_natCast, ← Lib.itoa_nonneg]
  exact itoa_any m (by omega) (by omega) w hL
/-- An epoch's text. -/
def epT (c a i : Int) : ByteArray := dgB c ++ ⟨#[46]⟩ ++ dgB a ++ ⟨#[46]⟩ ++ dgB i
set_option maxRecDepth 100000 in
set_option maxHeartbeats 4000000 in
theorem epText_any (c a i : Int) (hc : 0 ≤ c ∧ c < 65536) (ha : 0 ≤ a ∧ a < 256) (hi : 0 ≤ i ∧ i < 65536) (w : World) (hL : LaidW w) :
    Calls Tryd.prog 72 #[.agg #[.int .u16 c, .int .u8 a, .int .u16 i]] w fun e w' => e = .returned (.string (epT c a i)) ∧ Below w.heap.size w w' := by
  have HO := Lib.hid (ObjAt.new w #[.int .u16 c, .int .u8 a, .int .u16 i] 45)
  have HB := Lib.hid ((Below.refl w.heap.size w).alloc (Nat.le_refl _) (.cells #[.int .u16 c, .int .u8 a, .int .u16 i] 45))
  have hw1 : IntKind.i64.wrap c = c := IntWalk.i64_in _ (by omega)
  have hw2 : IntKind.i64.wrap a = a := IntWalk.i64_in _ (by omega)
  have hw3 : IntKind.i64.wrap i = i := IntWalk.i64_in _ (by omega)
  obtain ⟨d1, hd1⟩ : ∃ d, d = dgB c := ⟨_, rfl⟩
  obtain ⟨d2, hd2⟩ : ∃ d, d = dgB a := ⟨_, rfl⟩
  obtain ⟨d3, hd3⟩ : ∃ d, d = dgB i := ⟨_, rfl⟩
  have hz1 : d1.size ≤ 10 := by rw [hd1]; exact dgB_size (by omega)
  have hz2 : d2.size ≤ 10 := by rw [hd2]; exact dgB_size (by omega)
  have hz3 : d3.size ≤ 10 := by rw [hd3]; exact dgB_size (by omega)
  have r1 : ¬ (9223372036854775807 < d1.size + 1) := by omega
  have r2 : ¬ (9223372036854775807 < d1.size + 1 + d2.size) := by omega
  have r3 : ¬ (9223372036854775807 < d1.size + 1 + d2.size + 1) := by omega
  have r4 : ¬ (9223372036854775807 < d1.size + 1 + d2.size + 1 + d3.size) := by omega
  have HD1 := Lib.hid hd1
  have HD2 := Lib.hid hd2
  have HD3 := Lib.hid hd3
  clear hd1 hd2 hd3
  go_enter Tryd.func72, Tryd.ntmps72
  go_wp2_with fail
  generalize w.alloc (.cells #[.int .u16 c, .int .u8 a, .int .u16 i] 45) = w1 at *
  generalize hgg : w.heap.size = g at *
  have HGG := Lib.hid hgg
  clear hgg
  have HW0 := Lib.hid (show ObjAt w1.drew g #[.int .u16 c, .int .u8 a, .int .u16 i] 45 from HO.out)
  have HX0 := Lib.hid (show Below g w w1.drew from ⟨HB.out.os, HB.out.tape, HB.out.output, HB.out.size, HB.out.block⟩)
  have HL0 := Lib.hid (show LaidW w1.drew from laidW_below hL HX0.out (Nat.le_of_eq HGG.out))
  go_region_held3 (fun w' => w'.cell? ⟨g, 0, none⟩ = some (.int .u16 c) ∧ w'.cell? ⟨g, 1, none⟩ = some (.int .u8 a) ∧ w'.cell? ⟨g, 2, none⟩ = some (.int .u16 i))
    (first | exact ⟨HO.out.cell 0, HO.out.cell 1, HO.out.cell 2⟩ | exact ⟨HO5.out.cell 0, HO5.out.cell 1, HO5.out.cell 2⟩ | exact ⟨HO6.out.cell 0, HO6.out.cell 1, HO6.out.cell 2⟩ | exact ⟨HO7.out.cell 0, HO7.out.cell 1, HO7.out.cell 2⟩)
    (first
      | (go_at_call 59; (with_reducible refine (itoa_int c (by omega) d1 HD1.out  _ HL0.out).mono ?_); rintro e w5 ⟨rfl, hb5⟩; have HX5 := Lib.hid (HX0.out.trans (hb5.mono (Nat.le_of_lt HW0.out.lt))); have HL5 := Lib.hid (laidW_below HL0.out hb5 (Nat.le_refl _)); have HO5 := Lib.hid ((Keep.of_below (S := fun _ => False) hb5).obj HW0.out (fun h => h)))
      | (go_at_call 59; (with_reducible refine (itoa_int a (by omega) d2 HD2.out  _ HL5.out).mono ?_); rintro e w6 ⟨rfl, hb6⟩; have HX6 := Lib.hid (HX5.out.trans (hb6.mono (Nat.le_of_lt HO5.out.lt))); have HL6 := Lib.hid (laidW_below HL5.out hb6 (Nat.le_refl _)); have HO6 := Lib.hid ((Keep.of_below (S := fun _ => False) hb6).obj HO5.out (fun h => h)))
      | (go_at_call 59; (with_reducible refine (itoa_int i (by omega) d3 HD3.out  _ HL6.out).mono ?_); rintro e w7 ⟨rfl, hb7⟩; have HX7 := Lib.hid (HX6.out.trans (hb7.mono (Nat.le_of_lt HO6.out.lt))); have HO7 := Lib.hid ((Keep.of_below (S := fun _ => False) hb7).obj HO6.out (fun h => h))))
  clear r1 r2 r3 r4 hz1 hz2 hz3
  go_wp2
  go_ret
  refine ⟨?_, by rw [HGG.out]; exact HX7.out⟩
  unfold epT
  rw [← HD1.out, ← HD2.out, ← HD3.out]
  rfl
set_option maxRecDepth 100000 in
set_option maxHeartbeats 4000000 in
theorem repText_any (c a i : Int) (hc : 0 ≤ c ∧ c < 65536) (ha : 0 ≤ a ∧ a < 256) (hi : 0 ≤ i ∧ i < 65536) (w : World) :
    Calls Tryd.prog 74 #[.agg #[.int .u16 c, .int .u8 a, .int .u16 i]] w fun e w' => e = .returned (.string (epT c a i)) ∧ Below w.heap.size w w' := by
  have HO := Lib.hid (ObjAt.new w #[.int .u16 c, .int .u8 a, .int .u16 i] 45)
  have HB := Lib.hid ((Below.refl w.heap.size w).alloc (Nat.le_refl _) (.cells #[.int .u16 c, .int .u8 a, .int .u16 i] 45))
  have hw1 : IntKind.i64.wrap c = c := IntWalk.i64_in _ (by omega)
  have hw2 : IntKind.i64.wrap a = a := IntWalk.i64_in _ (by omega)
  have hw3 : IntKind.i64.wrap i = i := IntWalk.i64_in _ (by omega)
  obtain ⟨d1, hd1⟩ : ∃ d, d = dgB c := ⟨_, rfl⟩
  obtain ⟨d2, hd2⟩ : ∃ d, d = dgB a := ⟨_, rfl⟩
  obtain ⟨d3, hd3⟩ : ∃ d, d = dgB i := ⟨_, rfl⟩
  have hz1 : d1.size ≤ 10 := by rw [hd1]; exact dgB_size (by omega)
  have hz2 : d2.size ≤ 10 := by rw [hd2]; exact dgB_size (by omega)
  have hz3 : d3.size ≤ 10 := by rw [hd3]; exact dgB_size (by omega)
  have r1 : ¬ (9223372036854775807 < d1.size + 1) := by omega
  have r2 : ¬ (9223372036854775807 < d1.size + 1 + d2.size) := by omega
  have r3 : ¬ (9223372036854775807 < d1.size + 1 + d2.size + 1) := by omega
  have r4 : ¬ (9223372036854775807 < d1.size + 1 + d2.size + 1 + d3.size) := by omega
  have HD1 := Lib.hid hd1
  have HD2 := Lib.hid hd2
  have HD3 := Lib.hid hd3
  clear hd1 hd2 hd3
  go_enter Tryd.func74, Tryd.ntmps74
  go_wp2_with fail
  generalize w.alloc (.cells #[.int .u16 c, .int .u8 a, .int .u16 i] 45) = w1 at *
  generalize hgg : w.heap.size = g at *
  have HGG := Lib.hid hgg
  clear hgg
  have HW0 := Lib.hid (show ObjAt w1.drew g #[.int .u16 c, .int .u8 a, .int .u16 i] 45 from HO.out)
  have HX0 := Lib.hid (show Below g w w1.drew from ⟨HB.out.os, HB.out.tape, HB.out.output, HB.out.size, HB.out.block⟩)
  go_region_held3 (fun w' => w'.cell? ⟨g, 0, none⟩ = some (.int .u16 c) ∧ w'.cell? ⟨g, 1, none⟩ = some (.int .u8 a) ∧ w'.cell? ⟨g, 2, none⟩ = some (.int .u16 i))
    (first | exact ⟨HO.out.cell 0, HO.out.cell 1, HO.out.cell 2⟩ | exact ⟨HO5.out.cell 0, HO5.out.cell 1, HO5.out.cell 2⟩ | exact ⟨HO6.out.cell 0, HO6.out.cell 1, HO6.out.cell 2⟩ | exact ⟨HO7.out.cell 0, HO7.out.cell 1, HO7.out.cell 2⟩)
    (first
      | (go_at_call 61; (with_reducible refine (digits_int c (by omega) d1 HD1.out _).mono ?_); rintro e w5 ⟨rfl, hb5⟩; have HX5 := Lib.hid (HX0.out.trans (hb5.mono (Nat.le_of_lt HW0.out.lt))); have HO5 := Lib.hid ((Keep.of_below (S := fun _ => False) hb5).obj HW0.out (fun h => h)))
      | (go_at_call 61; (with_reducible refine (digits_int a (by omega) d2 HD2.out _).mono ?_); rintro e w6 ⟨rfl, hb6⟩; have HX6 := Lib.hid (HX5.out.trans (hb6.mono (Nat.le_of_lt HO5.out.lt))); have HO6 := Lib.hid ((Keep.of_below (S := fun _ => False) hb6).obj HO5.out (fun h => h)))
      | (go_at_call 61; (with_reducible refine (digits_int i (by omega) d3 HD3.out _).mono ?_); rintro e w7 ⟨rfl, hb7⟩; have HX7 := Lib.hid (HX6.out.trans (hb7.mono (Nat.le_of_lt HO6.out.lt))); have HO7 := Lib.hid ((Keep.of_below (S := fun _ => False) hb7).obj HO6.out (fun h => h))))
  clear r1 r2 r3 r4 hz1 hz2 hz3
  go_wp2
  go_ret
  refine ⟨?_, by rw [HGG.out]; exact HX7.out⟩
  unfold epT
  rw [← HD1.out, ← HD2.out, ← HD3.out]
  rfl
end Go.Proofs.YtmehafolnpkmhaaDoor
