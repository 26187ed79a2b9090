/- Sums: what they are, the walks of the program's and the document's, and the plain laws. -/
import Derived.Laws.BitsAllLaws
import Derived.IntWalk
import Derived.Laws.BytesArg
import Derived.Test.YtmehafolnpkmhaaDoorgBase
import Derived.Lib.ConvBytes
import Derived.RegionTactic
import Derived.BigRegion
/-! Plain functions: what the two texts of package crc reckon. -/
section
namespace Go.Proofs.YtmehafolnpkmhaaDoor.Crc
def tab : List Nat := [0, 4129, 8258, 12387, 16516, 20645, 24774, 28903, 33032, 37161, 41290, 45419, 49548, 53677, 57806, 61935]
def qt (n : Nat) : Nat := tab.getD (n % 16) 0
def step (s c : Nat) : Nat :=
  let s1 := s * 16 % 65536 ^^^ qt (s / 4096 ^^^ c / 16)
  s1 * 16 % 65536 ^^^ qt (s1 / 4096 ^^^ c)
def more (s : Nat) (l : List UInt8) : Nat := l.foldl (fun s c => step s c.toNat) s
theorem qt_lt (n : Nat) : qt n < 65536 := by
  unfold qt
  have : n % 16 < 16 := Nat.mod_lt _ (by decide)
  generalize n % 16 = m at *
  have h : ∀ m : Fin 16, tab.getD m.val 0 < 65536 := by decide
  exact h ⟨m, this⟩
theorem step_lt (s c : Nat) : step s c < 65536 := by
  unfold step
  exact Nat.xor_lt_two_pow (n := 16) (Nat.mod_lt _ (by decide)) (qt_lt _)
theorem more_lt (s : Nat) (h : s < 65536) (l : List UInt8) : more s l < 65536 := by
  unfold more
  induction l generalizing s with
  | nil => exact h
  | cons c l ih => exact ih _ (step_lt _ _)
theorem more_snoc (s : Nat) (l : List UInt8) (c : UInt8) : more s (l ++ [c]) = step (more s l) c.toNat := by
  simp [more]
def two (n : Nat) : ByteArray := strOfNums [(n : Int) / 256, (n : Int) % 256]
def sealed (s : ByteArray) : ByteArray := s ++ two (more 65535 s.data.toList)
def opened (s : ByteArray) : ByteArray × Bool := if s.size < 2 ∨ more 65535 s.data.toList ≠ 0 then (⟨#[]⟩, false) else (s.extract 0 (s.size - 2), true)
theorem opened_short (s : ByteArray) (h : s.size < 2) : opened s = (⟨#[]⟩, false) := by simp [opened, h]
theorem opened_no (s : ByteArray) (h : more 65535 s.data.toList ≠ 0) : opened s = (⟨#[]⟩, false) := by simp [opened, h]
theorem opened_yes (s : ByteArray) (h : ¬ s.size < 2) (h2 : more 65535 s.data.toList = 0) : opened s = (s.extract 0 (s.size - 2), true) := by simp [opened, h, h2]
theorem xor_toNat (a b : Nat) (ha : a < 65536) (hb : b < 65536) : (bits .xor .u16 (a : Int) (b : Int)).toNat = a ^^^ b := by
  rw [u16_xor_nat a b ha hb]; simp
theorem xor16_lt {a b : Nat} (ha : a < 65536) (hb : b < 65536) : a ^^^ b < 65536 := Nat.xor_lt_two_pow (n := 16) ha hb
theorem i64_xor_nat (a b : Nat) (ha : a < 2 ^ 63) (hb : b < 2 ^ 63) : bits .xor .i64 (a : Int) (b : Int) = ((a ^^^ b : Nat) : Int) := by
  have hx : a ^^^ b < 2 ^ 63 := Nat.xor_lt_two_pow ha hb
  show IntKind.i64.wrap ((BitVec.ofInt 64 (a : Int) ^^^ BitVec.ofInt 64 (b : Int)).toNat : Int) = _
  rw [BitVec.toNat_xor, BitVec.ofInt_natCast, BitVec.ofInt_natCast, BitVec.toNat_ofNat, BitVec.toNat_ofNat, Nat.mod_eq_of_lt (by omega), Nat.mod_eq_of_lt (by omega)]
  exact IntWalk.i64_in _ (by omega)
/-! The reference: bit by bit. -/
def bit1 (n : Nat) : Nat := if 65536 ≤ 2 * n then (2 * n - 65536) ^^^ 4129 else 2 * n
def bits8 : Nat → Nat → Nat
  | 0, n => n
  | k + 1, n => bit1 (bits8 k n)
def rstep (s c : Nat) : Nat := bits8 8 (s ^^^ c * 256)
def rmore (s : Nat) (l : List UInt8) : Nat := l.foldl (fun s c => rstep s c.toNat) s
theorem bit1_lt {n : Nat} (h : n < 65536) : bit1 n < 65536 := by
  unfold bit1
  split
  · exact Nat.xor_lt_two_pow (n := 16) (by omega) (by decide)
  · omega
theorem bits8_lt (k : Nat) {n : Nat} (h : n < 65536) : bits8 k n < 65536 := by
  induction k with
  | zero => exact h
  | succ k ih => exact bit1_lt ih
theorem rstep_lt {s c : Nat} (h : s < 65536) (hc : c < 256) : rstep s c < 65536 := bits8_lt 8 (Nat.xor_lt_two_pow (n := 16) h (by omega))
theorem rmore_lt (s : Nat) (h : s < 65536) (l : List UInt8) : rmore s l < 65536 := by
  unfold rmore
  induction l generalizing s with
  | nil => exact h
  | cons c l ih =>
    have := rstep_lt h (UInt8.toNat_lt c)
    rw [List.foldl_cons]
    generalize rstep s c.toNat = t at *
    exact ih t this
theorem rmore_snoc (s : Nat) (l : List UInt8) (c : UInt8) : rmore s (l ++ [c]) = rstep (rmore s l) c.toNat := by
  simp [rmore]
theorem bit1_over {n : Nat} (h : n < 65536) (h2 : 65536 ≤ 2 * (n : Int)) : bits .xor .i64 (2 * (n : Int) - 65536) 4129 = ((bit1 n : Nat) : Int) := by
  rw [show 2 * (n : Int) - 65536 = ((2 * n - 65536 : Nat) : Int) from by omega, show (4129 : Int) = ((4129 : Nat) : Int) from rfl, i64_xor_nat _ _ (by omega) (by decide)]
  unfold bit1
  rw [if_pos (by omega)]
theorem bit1_under {n : Nat} (h2 : ¬ 65536 ≤ 2 * (n : Int)) : 2 * (n : Int) = ((bit1 n : Nat) : Int) := by
  unfold bit1
  rw [if_neg (by omega)]
  omega
def rsealed (s : ByteArray) : ByteArray := s ++ two (rmore 65535 s.data.toList)
/-! Bursts. -/
/-- What byte number k of a burst from bit a on is turned by. -/
def mask (a p k : Nat) : UInt8 := UInt8.ofNat (p * 2 ^ (8 - a % 8) / 2 ^ (16 - 8 * k))
/-- The first k bytes of a burst. -/
def part (l : List UInt8) (a p k : Nat) : List UInt8 := l.mapIdx fun i c => if a / 8 ≤ i ∧ i < a / 8 + k then c ^^^ mask a p (i - a / 8) else c
def burst (s : ByteArray) (at_ : Int) (p : Nat) : ByteArray :=
  if at_ < 0 ∨ 8 * (s.size : Int) ≤ at_ then s else ⟨(part s.data.toList at_.toNat p 3).toArray⟩
theorem part_length (l : List UInt8) (a p k : Nat) : (part l a p k).length = l.length := by simp [part]
theorem part_zero (l : List UInt8) (a p : Nat) : part l a p 0 = l := by
  apply List.ext_getElem
  · simp [part]
  · intro i h1 h2
    simp only [part, List.getElem_mapIdx]
    rw [if_neg (by omega)]
theorem part_succ (l : List UInt8) (a p k : Nat) (h : a / 8 + k < l.length) :
    part l a p (k + 1) = (part l a p k).set (a / 8 + k) (l[a / 8 + k] ^^^ mask a p k) := by
  apply List.ext_getElem
  · simp [part]
  · intro i h1 h2
    rw [List.getElem_set]
    simp only [part, List.getElem_mapIdx]
    by_cases e : a / 8 + k = i
    · subst e
      rw [if_pos rfl, if_pos (by omega)]
      congr 2
      omega
    · rw [if_neg e]
      by_cases h3 : a / 8 ≤ i ∧ i < a / 8 + k
      · rw [if_pos h3, if_pos (by omega)]
      · rw [if_neg h3, if_neg (by omega)]
theorem part_here (l : List UInt8) (a p k : Nat) (h : a / 8 + k < l.length) : (part l a p k).getD (a / 8 + k) 0 = l[a / 8 + k] := by
  have : a / 8 + k < (part l a p k).length := by simpa [part] using h
  rw [List.getD_eq_getElem?_getD, List.getElem?_eq_getElem this, Option.getD_some]
  simp only [part, List.getElem_mapIdx]
  rw [if_neg (by omega)]
theorem part_end (l : List UInt8) (a p k : Nat) (h : k ≤ 3) (h2 : k = 3 ∨ l.length ≤ a / 8 + k) : part l a p k = part l a p 3 := by
  apply List.ext_getElem
  · simp [part]
  · intro i h1 h3
    simp [part] at h1
    simp only [part, List.getElem_mapIdx]
    by_cases h4 : a / 8 ≤ i ∧ i < a / 8 + k
    · rw [if_pos h4, if_pos (by omega)]
    · rw [if_neg h4, if_neg (by omega)]
theorem burst_out (s : ByteArray) (at_ : Int) (p : Nat) (h : at_ < 0 ∨ 8 * (s.size : Int) ≤ at_) : burst s at_ p = s := by
  rw [burst, if_pos h]
/-- The first k bits of a burst, one by one. -/
def flips (l : List UInt8) (a p : Nat) : Nat → List UInt8
  | 0 => l
  | k + 1 =>
    if p / 2 ^ (15 - k) % 2 = 1 ∧ k < 8 * l.length - a then
      (flips l a p k).set ((a + k) / 8) ((flips l a p k).getD ((a + k) / 8) 0 ^^^ UInt8.ofNat (2 ^ (7 - (a + k) % 8)))
    else flips l a p k
theorem flips_length (l : List UInt8) (a p k : Nat) : (flips l a p k).length = l.length := by
  induction k with
  | zero => rfl
  | succ k ih =>
    unfold flips
    split
    · simp [ih]
    · exact ih
def rburst (s : ByteArray) (at_ : Int) (p : Nat) : ByteArray :=
  if at_ < 0 ∨ 8 * (s.size : Int) ≤ at_ then s else ⟨(flips s.data.toList at_.toNat p 16).toArray⟩
theorem rburst_out (s : ByteArray) (at_ : Int) (p : Nat) (h : at_ < 0 ∨ 8 * (s.size : Int) ≤ at_) : rburst s at_ p = s := by
  rw [rburst, if_pos h]
/-! Matrices. -/
def timesTo (m : List Nat) (s : Nat) : Nat → Nat
  | 0 => 0
  | k + 1 => if s / 2 ^ k % 2 = 1 then timesTo m s k ^^^ m.getD k 0 else timesTo m s k
theorem getD_lt {m : List Nat} (hm : ∀ x ∈ m, x < 65536) (k : Nat) : m.getD k 0 < 65536 := by
  rw [List.getD_eq_getElem?_getD]
  cases h : m[k]? with
  | none => simp
  | some x => exact hm x (List.mem_of_getElem? h)
theorem timesTo_lt (m : List Nat) (s : Nat) (hm : ∀ x ∈ m, x < 65536) (k : Nat) : timesTo m s k < 65536 := by
  induction k with
  | zero => exact (by decide : (0 : Nat) < 65536)
  | succ k ih =>
    unfold timesTo
    split
    · exact Nat.xor_lt_two_pow (n := 16) ih (getD_lt hm k)
    · exact ih
/-- The first k rows of a matrix' double. -/
def twiceTo (m : List Nat) (k : Nat) : List Nat := (List.range 16).map fun i => if i < k then timesTo m (m.getD i 0) 16 else 0
def twice (m : List Nat) : List Nat := (List.range 16).map fun i => timesTo m (m.getD i 0) 16
theorem twiceTo_succ (m : List Nat) (k : Nat) (_hk : k < 16) : twiceTo m (k + 1) = (twiceTo m k).set k (timesTo m (m.getD k 0) 16) := by
  apply List.ext_getElem
  · simp [twiceTo]
  · intro i h1 h2
    simp [twiceTo] at h1
    rw [List.getElem_set]
    simp only [twiceTo, List.getElem_map, List.getElem_range]
    by_cases e : k = i
    · subst e; rw [if_pos rfl, if_pos (by omega)]
    · rw [if_neg e]
      by_cases h3 : i < k
      · rw [if_pos h3, if_pos (by omega)]
      · rw [if_neg h3, if_neg (by omega)]
theorem twiceTo_all (m : List Nat) (k : Nat) (hk : 16 ≤ k) : twiceTo m k = twice m := by
  unfold twiceTo twice
  apply List.map_congr_left
  intro i hi
  rw [List.mem_range] at hi
  rw [if_pos (by omega)]
/-- The first k rows of the matrix of a byte 0. -/
def oneTo (k : Nat) : List Nat := (List.range 16).map fun i => if i < k then more (2 ^ i) [0] else 0
def one : List Nat := (List.range 16).map fun i => more (2 ^ i) [0]
theorem oneTo_succ (k : Nat) (_hk : k < 16) : oneTo (k + 1) = (oneTo k).set k (more (2 ^ k) [0]) := by
  apply List.ext_getElem
  · simp [oneTo]
  · intro i h1 h2
    simp [oneTo] at h1
    rw [List.getElem_set]
    simp only [oneTo, List.getElem_map, List.getElem_range]
    by_cases e : k = i
    · subst e; rw [if_pos rfl, if_pos (by omega)]
    · rw [if_neg e]
      by_cases h3 : i < k
      · rw [if_pos h3, if_pos (by omega)]
      · rw [if_neg h3, if_neg (by omega)]
theorem oneTo_all (k : Nat) (hk : 16 ≤ k) : oneTo k = one := by
  unfold oneTo one
  apply List.map_congr_left
  intro i hi
  rw [List.mem_range] at hi
  rw [if_pos (by omega)]
/-- One byte, in the walk's own words. -/
theorem step_int (m c : Nat) (hm : m < 65536) (hc : c < 256) :
    bits .xor .u16 (IntKind.u16.wrap (bits .xor .u16 (IntKind.u16.wrap ((m : Int) * 16)) (qt (bits .xor .u16 ((m : Int) / 4096) (IntKind.u16.wrap (c : Int) / 16)).toNat : Nat) * 16))
      (qt (bits .xor .u16 (bits .xor .u16 (IntKind.u16.wrap ((m : Int) * 16)) (qt (bits .xor .u16 ((m : Int) / 4096) (IntKind.u16.wrap (c : Int) / 16)).toNat : Nat) / 4096) (IntKind.u16.wrap (c : Int))).toNat : Nat) = ((step m c : Nat) : Int) := by
  have e1 : IntKind.u16.wrap (c : Int) = (c : Int) := by rw [IntKind.wrap_u16]; omega
  have e2 : IntKind.u16.wrap ((m : Int) * 16) = ((m * 16 % 65536 : Nat) : Int) := by rw [IntKind.wrap_u16]; omega
  have e3 : (m : Int) / 4096 = ((m / 4096 : Nat) : Int) := by omega
  have e4 : (c : Int) / 16 = ((c / 16 : Nat) : Int) := by omega
  rw [e1, e2, e3, e4, xor_toNat _ _ (by omega) (by omega)]
  have hq := qt_lt (m / 4096 ^^^ c / 16)
  rw [u16_xor_nat _ _ (Nat.mod_lt _ (by decide)) hq]
  have hs1 : m * 16 % 65536 ^^^ qt (m / 4096 ^^^ c / 16) < 65536 := xor16_lt (Nat.mod_lt _ (by decide)) hq
  unfold step
  dsimp only
  generalize m * 16 % 65536 ^^^ qt (m / 4096 ^^^ c / 16) = s1 at *
  have e5 : IntKind.u16.wrap ((s1 : Int) * 16) = ((s1 * 16 % 65536 : Nat) : Int) := by rw [IntKind.wrap_u16]; omega
  have e6 : (s1 : Int) / 4096 = ((s1 / 4096 : Nat) : Int) := by omega
  rw [e5, e6, xor_toNat _ _ (by omega) (by omega), u16_xor_nat _ _ (Nat.mod_lt _ (by decide)) (qt_lt _)]
end Go.Proofs.YtmehafolnpkmhaaDoor.Crc
end
/-! The walks through package crc. -/
section
namespace Go.Proofs.YtmehafolnpkmhaaDoor
open Go.RowKit
theorem quarter_index (w : World) : ∀ m : Fin 16,
    (Instr.index 138 (.agg #[.int .u16 0, .int .u16 4129, .int .u16 8258, .int .u16 12387, .int .u16 16516, .int .u16 20645, .int .u16 24774, .int .u16 28903, .int .u16 33032, .int .u16 37161, .int .u16 41290, .int .u16 45419, .int .u16 49548, .int .u16 53677, .int .u16 57806, .int .u16 61935]) (.int .u16 (m.val : Int))).run Tryd.prog w = .ok (.int .u16 (Crc.tab.getD m.val 0 : Nat)) w
  | ⟨0, _⟩ => by kernel_rfl
  | ⟨1, _⟩ => by kernel_rfl
  | ⟨2, _⟩ => by kernel_rfl
  | ⟨3, _⟩ => by kernel_rfl
  | ⟨4, _⟩ => by kernel_rfl
  | ⟨5, _⟩ => by kernel_rfl
  | ⟨6, _⟩ => by kernel_rfl
  | ⟨7, _⟩ => by kernel_rfl
  | ⟨8, _⟩ => by kernel_rfl
  | ⟨9, _⟩ => by kernel_rfl
  | ⟨10, _⟩ => by kernel_rfl
  | ⟨11, _⟩ => by kernel_rfl
  | ⟨12, _⟩ => by kernel_rfl
  | ⟨13, _⟩ => by kernel_rfl
  | ⟨14, _⟩ => by kernel_rfl
  | ⟨15, _⟩ => by kernel_rfl
  | ⟨_ + 16, h⟩ => absurd h (by omega)
set_option maxRecDepth 100000 in
theorem quarter_any (n : Nat) (h : n < 65536) (w : World) :
    Calls Tryd.prog 111 #[.int .u16 (n : Int)] w fun e w' => e = .returned (.int .u16 (Crc.qt n : Nat)) ∧ w = w' := by
  have hb : bits .and .u16 (n : Int) 15 = ((n % 16 : Nat) : Int) := by
    have := u16_and_nat n 15 h (by decide)
    rw [show (15 : Nat) = 2 ^ 4 - 1 from rfl, Nat.and_two_pow_sub_one_eq_mod] at this
    exact this
  have hq : ∀ w, _ := fun w => quarter_index w ⟨n % 16, Nat.mod_lt _ (by decide)⟩
  simp only [← hb] at hq
  clear hb
  go_enter Tryd.func111, Tryd.ntmps111
  go_wp2
  go_ret
  exact ⟨rfl, rfl⟩
theorem quarter_int (a : Int) (h0 : 0 ≤ a) (h1 : a ≤ 65535) (w : World) :
    Calls Tryd.prog 111 #[.int .u16 a] w fun e w' => e = .returned (.int .u16 (Crc.qt a.toNat : Nat)) ∧ w = w' := by
  obtain ⟨n, rfl⟩ := Int.eq_ofNat_of_zero_le h0
  exact quarter_any n (by omega) w
set_option maxRecDepth 100000 in
theorem more_any (n : Nat) (h : n < 65536) (s : ByteArray) (hs : s.size ≤ maxLen) (w : World) :
    Calls Tryd.prog 101 #[.int .u16 (n : Int), .string s] w fun e w' => e = .returned (.int .u16 (Crc.more n s.data.toList : Nat)) ∧ w = w' := by
  unfold maxLen at hs
  go_enter Tryd.func101, Tryd.ntmps101
  go_wp2
  go_loop [0, 9] (fun a i => ∃ k : Nat, k ≤ s.size ∧ i = .int .i64 k ∧ a = .int .u16 (Crc.more n (s.data.toList.take k) : Nat)) (fun _ i => s.size - (intOf i).toNat)
  case atStart => exact ⟨0, Nat.zero_le _, rfl, rfl⟩
  case round =>
    obtain ⟨k, hk, rfl, rfl⟩ := hrel
    have hm := Crc.more_lt n h (s.data.toList.take k)
    generalize hM : Crc.more n (s.data.toList.take k) = m at *
    have HM := Lib.hid hM
    clear hM
    by_cases hlt : k < s.size
    · go_wp2_with fail
      refine (quarter_int _ (bits_lo_u16 _ _ _) (bits_hi_u16 _ _ _) w).mono ?_
      rintro e w' ⟨rfl, rfl⟩
      go_wp2_with fail
      refine (quarter_int _ (bits_lo_u16 _ _ _) (bits_hi_u16 _ _ _) w).mono ?_
      rintro e w' ⟨rfl, rfl⟩
      go_wp2
      go_round
      case rel =>
        refine ⟨k + 1, hlt, by go_num, ?_⟩
        rw [take_snoc s k hlt, Crc.more_snoc, HM.out]
        exact congrArg _ (Crc.step_int m s[k].toNat hm (UInt8.toNat_lt _))
      case measure => simp [intOf]; omega
    · go_wp2
      go_ret
      exact ⟨ret_int (by rw [← HM.out, List.take_of_length_le (by simp; omega)]), rfl⟩
set_option maxRecDepth 100000 in
theorem rmore_any (n : Nat) (h : n < 65536) (s : ByteArray) (hs : s.size ≤ maxLen) (w : World) :
    Calls Tryd.prog 97 #[.int .u16 (n : Int), .string s] w fun e w' => e = .returned (.int .u16 (Crc.rmore n s.data.toList : Nat)) ∧ w = w' := by
  unfold maxLen at hs
  go_enter Tryd.func97, Tryd.ntmps97
  go_wp2
  go_loop [5, 6] (fun a i => ∃ k : Nat, k ≤ s.size ∧ i = .int .i64 k ∧ a = .int .i64 (Crc.rmore n (s.data.toList.take k) : Nat)) (fun _ i => s.size - (intOf i).toNat)
  case atStart => exact ⟨0, Nat.zero_le _, rfl, rfl⟩
  case round =>
    obtain ⟨k, hk, rfl, rfl⟩ := hrel
    have hm := Crc.rmore_lt n h (s.data.toList.take k)
    generalize hM : Crc.rmore n (s.data.toList.take k) = m at *
    have HM := Lib.hid hM
    clear hM
    by_cases hlt : k < s.size
    · have hc := UInt8.toNat_lt s[k]
      have hx : bits .xor .i64 (m : Int) ((s[k].toNat : Int) * 256) = ((m ^^^ s[k].toNat * 256 : Nat) : Int) := by
        rw [show (s[k].toNat : Int) * 256 = ((s[k].toNat * 256 : Nat) : Int) from by omega]
        exact Crc.i64_xor_nat _ _ (by omega) (by omega)
      have hxl : m ^^^ s[k].toNat * 256 < 65536 := Nat.xor_lt_two_pow (n := 16) hm (by have := UInt8.toNat_lt s[k]; omega)
      go_wp2
      generalize hX : m ^^^ s[k].toNat * 256 = x at *
      have HX := Lib.hid hX
      clear hX hx
      go_loop [5, 7] (fun a i => ∃ j : Nat, j ≤ 8 ∧ i = .int .i64 j ∧ a = .int .i64 (Crc.bits8 j x : Nat)) (fun _ i => 8 - (intOf i).toNat)
      case atStart => exact ⟨0, Nat.zero_le _, rfl, rfl⟩
      case round =>
        obtain ⟨j, hj, rfl, rfl⟩ := hrel
        have hb := Crc.bits8_lt j hxl
        generalize hB : Crc.bits8 j x = b at *
        have HB := Lib.hid hB
        clear hB
        by_cases hjl : j < 8
        · by_cases ho : 65536 ≤ 2 * (b : Int)
          · have hov := Crc.bit1_over hb ho
            go_wp2
            go_round
            case rel => exact ⟨j + 1, hjl, by go_num, by rw [Crc.bits8, HB.out]⟩
            case measure => simp [intOf]; omega
          · have hun := Lib.hid (Crc.bit1_under ho)
            go_wp2
            go_round
            case rel => exact ⟨j + 1, hjl, by go_num, by rw [Crc.bits8, HB.out, hun.out]⟩
            case measure => simp [intOf]; omega
        · have h8 : j = 8 := by omega
          have H8 := Lib.hid h8
          clear h8
          go_wp2
          go_round
          case rel => exact ⟨k + 1, hlt, by go_num, by rw [take_snoc s k hlt, Crc.rmore_snoc, HM.out, Crc.rstep, HX.out, ← H8.out, HB.out]⟩
          case measure => simp [intOf]; omega
    · go_wp2
      go_ret
      exact ⟨ret_int (by rw [← HM.out, List.take_of_length_le (by simp; omega)]), rfl⟩
end Go.Proofs.YtmehafolnpkmhaaDoor
end
/-! The walks through package crc, and through its reference: sums, seals. -/
section
namespace Go.Proofs.YtmehafolnpkmhaaDoor
open Go.RowKit
set_option maxRecDepth 100000 in
theorem sum_any (s : ByteArray) (hs : s.size ≤ maxLen) (w : World) :
    Calls Tryd.prog 87 #[.string s] w fun e w' => e = .returned (.int .u16 (Crc.more 65535 s.data.toList : Nat)) ∧ w = w' := by
  go_enter Tryd.func87, Tryd.ntmps87
  go_wp2_with fail
  refine (more_any 65535 (by decide) s hs w).mono ?_
  rintro e w' ⟨rfl, rfl⟩
  go_wp2
  go_ret
  exact ⟨rfl, rfl⟩
set_option maxRecDepth 100000 in
theorem rsum_any (s : ByteArray) (hs : s.size ≤ maxLen) (w : World) :
    Calls Tryd.prog 80 #[.string s] w fun e w' => e = .returned (.int .u16 (Crc.rmore 65535 s.data.toList : Nat)) ∧ w = w' := by
  go_enter Tryd.func80, Tryd.ntmps80
  go_wp2_with fail
  refine (rmore_any 65535 (by decide) s hs w).mono ?_
  rintro e w' ⟨rfl, rfl⟩
  go_wp2
  go_ret
  exact ⟨rfl, rfl⟩
theorem lit2_string (w : World) (x y : Int) :
    (convert 61 9 (.slice (some ⟨w.heap.size, 0, none⟩) 2 2)).run Tryd.prog (w.alloc (.cells #[.int .u8 x, .int .u8 y] 5)) = .ok (.string (strOfNums [x, y])) (w.alloc (.cells #[.int .u8 x, .int .u8 y] 5)) :=
  run_convert_bytes_arg _ _ 5 (by kernel_rfl) (by kernel_rfl) _ 0 2 2 [x, y] rfl (fun i hi => by
    match i, hi with
    | 0, _ => simp [World.cell?, World.alloc, -World.alloc_eq]
    | 1, _ => simp [World.cell?, World.alloc, -World.alloc_eq]) _ (by kernel_rfl)
set_option maxRecDepth 100000 in
theorem sealed_any (s : ByteArray) (hs : s.size + 2 ≤ maxLen) (w : World) :
    Calls Tryd.prog 68 #[.string s] w fun e w' => e = .returned (.string (Crc.sealed s)) ∧ Below w.heap.size w w' := by
  have hm := Crc.more_lt 65535 (by decide) s.data.toList
  unfold maxLen at hs
  have hl := lit2_string w
  go_enter Tryd.func68, Tryd.ntmps68
  go_wp2_with fail
  refine (sum_any s (by unfold maxLen; omega) w).mono ?_
  rintro e w' ⟨rfl, rfl⟩
  have hz : ∀ x y : Int, (strOfNums [x, y]).size = 2 := fun x y => rfl
  go_wp2
  go_ret
  exact ⟨rfl, (Below.refl _ _).alloc (Nat.le_refl _) _⟩
set_option maxRecDepth 100000 in
theorem open_any (s : ByteArray) (hs : s.size ≤ maxLen) (w : World) :
    Calls Tryd.prog 75 #[.string s] w fun e w' => e = .returned (.tuple #[.string (Crc.opened s).1, .bool (Crc.opened s).2]) ∧ w = w' := by
  have hm := Crc.more_lt 65535 (by decide) s.data.toList
  unfold maxLen at hs
  by_cases h2 : s.size < 2
  · have hf := Lib.hid (Crc.opened_short s h2)
    go_enter Tryd.func75, Tryd.ntmps75
    go_wp2
    go_ret2
    exact ⟨by rw [hf.out]; rfl, rfl⟩
  · by_cases hz : Crc.more 65535 s.data.toList = 0
    · have hf := Lib.hid (Crc.opened_yes s h2 hz)
      have hb : ((Crc.more 65535 s.data.toList : Nat) != (0 : Int)) = false := by simp [hz]
      clear hz
      go_enter Tryd.func75, Tryd.ntmps75
      go_wp2_with fail
      refine (sum_any s (by unfold maxLen; omega) w).mono ?_
      rintro e w' ⟨rfl, rfl⟩
      go_wp2
      go_ret2
      exact ⟨by rw [hf.out]; rfl, rfl⟩
    · have hf := Lib.hid (Crc.opened_no s hz)
      have hb : ((Crc.more 65535 s.data.toList : Nat) != (0 : Int)) = true := by simp; omega
      clear hz
      go_enter Tryd.func75, Tryd.ntmps75
      go_wp2_with fail
      refine (sum_any s (by unfold maxLen; omega) w).mono ?_
      rintro e w' ⟨rfl, rfl⟩
      go_wp2
      go_ret2
      exact ⟨by rw [hf.out]; rfl, rfl⟩
theorem two_eq (n : Nat) (_h : n < 65536) : strOfNums [(n : Int) / 256, (n : Int) % 256] = Crc.two n := rfl
set_option maxRecDepth 100000 in
theorem rsealed_any (s : ByteArray) (hs : s.size + 2 ≤ maxLen) (w : World) :
    Calls Tryd.prog 51 #[.string s] w fun e w' => e = .returned (.string (Crc.rsealed s)) ∧ Below w.heap.size w w' := by
  have hm := Crc.rmore_lt 65535 (by decide) s.data.toList
  unfold maxLen at hs
  have hl := lit2_string w
  go_enter Tryd.func51, Tryd.ntmps51
  go_wp2_with fail
  refine (rsum_any s (by unfold maxLen; omega) w).mono ?_
  rintro e w' ⟨rfl, rfl⟩
  have hz : ∀ x y : Int, (strOfNums [x, y]).size = 2 := fun x y => rfl
  go_wp2
  go_ret
  exact ⟨rfl, (Below.refl _ _).alloc (Nat.le_refl _) _⟩
theorem more_int (a : Int) (h0 : 0 ≤ a) (h1 : a ≤ 65535) (s : ByteArray) (hs : s.size ≤ maxLen) (w : World) :
    Calls Tryd.prog 101 #[.int .u16 a, .string s] w fun e w' => e = .returned (.int .u16 (Crc.more a.toNat s.data.toList : Nat)) ∧ w = w' := by
  obtain ⟨n, rfl⟩ := Int.eq_ofNat_of_zero_le h0
  exact more_any n (by omega) s hs w
end Go.Proofs.YtmehafolnpkmhaaDoor
end
/-! The walks through both texts of Burst. -/
section
namespace Go.Proofs.YtmehafolnpkmhaaDoor
open Go.RowKit
def BytesAt (w : World) (b : Nat) (l : List UInt8) : Prop :=
  (∀ j, j < l.length → w.cell? ⟨b, j, none⟩ = some (.int .u8 (l.getD j 0).toNat)) ∧ ∀ j, j < l.length → w.frozen? ⟨b, j, none⟩ = false
theorem bytesAt_conv (w : World) (e : TypeId) (s : ByteArray) : BytesAt (Lib.bytesWorld w e s) w.heap.size s.data.toList := by
  constructor
  · intro j hj
    exact Lib.bytesWorld_cell w e s j (by simpa using hj)
  · intro j hj
    simp at hj
    have : j < (Lib.bytesCells w e s).size := by simp [Lib.bytesCells]; omega
    simp [World.frozen?, Lib.bytesWorld_at_new]
    omega
theorem below_conv (w : World) (e : TypeId) (s : ByteArray) : Below w.heap.size w (Lib.bytesWorld w e s) :=
  ⟨by simp [Lib.bytesWorld, World.freeze, World.alloc, World.drew, -World.alloc_eq, -World.drew_eq],
    by simp [Lib.bytesWorld, World.freeze, World.alloc, World.drew, -World.alloc_eq, -World.drew_eq],
    by simp [Lib.bytesWorld, World.freeze, World.alloc, World.drew, -World.alloc_eq, -World.drew_eq],
    by rw [Lib.bytesWorld_size]; omega, fun k hk => Lib.bytesWorld_at_old w e s k hk⟩
theorem bytesAt_drew {w : World} {b : Nat} {l : List UInt8} (h : BytesAt w b l) : BytesAt w.drew b l := h
theorem bytesAt_set {w : World} {b : Nat} {l : List UInt8} (h : BytesAt w b l) (j : Nat) (hj : j < l.length) (c : UInt8) :
    BytesAt (w.setCell ⟨b, j, none⟩ (.int .u8 c.toNat)) b (l.set j c) := by
  obtain ⟨h1, h2⟩ := h
  constructor
  · intro i hi
    rw [List.length_set] at hi
    by_cases e : i = j
    · subst e
      have h1i := h1 i hi
      simp only [World.cell?, World.setCell, Array.getElem?_modify] at h1i ⊢
      cases hb : w.heap[b]? with
      | none => simp [hb] at h1i
      | some o =>
        cases o with
        | cells cs el fr =>
          simp [hb] at h1i ⊢
          obtain ⟨hlt, _⟩ := Array.getElem?_eq_some_iff.1 h1i
          simp [hlt, hj]
        | _ => simp [hb] at h1i
    · have h1i := h1 i hi
      have hne : (⟨b, i, none⟩ : Addr) ≠ ⟨b, j, none⟩ := by simp
      rw [List.getD_eq_getElem?_getD, List.getElem?_set_ne (Ne.symm e), ← List.getD_eq_getElem?_getD, ← h1i]
      simp only [World.cell?, World.setCell, Array.getElem?_modify]
      cases hb : w.heap[b]? with
      | none => simp
      | some o =>
        cases o with
        | cells cs el fr => simp [Array.getElem?_setIfInBounds_ne (Ne.symm e)]
        | _ => simp
  · intro i hi
    rw [List.length_set] at hi
    have h2i := h2 i hi
    simp only [World.frozen?, World.setCell, Array.getElem?_modify] at h2i ⊢
    cases hb : w.heap[b]? with
    | none => simp
    | some o =>
      cases o with
      | cells cs el fr => simp [hb] at h2i ⊢; exact h2i
      | _ => simp
theorem burst_round (wr : World) (b : Nat) (l : List UInt8) (a p k : Nat) (h : BytesAt wr b (Crc.part l a p k)) (_hk : k < 3) (hl : a / 8 + k < l.length) (hW : p * 2 ^ (8 - a % 8) < 4294967296) :
    BytesAt (wr.setCell ⟨b, a / 8 + k, none⟩ (.int .u8 (bits .xor .u8 (l[a / 8 + k].toNat : Int) ((p : Int) * 2 ^ (8 - a % 8) % 4294967296 / 2 ^ (16 - 8 * k) % 256)))).drew b (Crc.part l a p (k + 1)) := by
  rw [Crc.part_succ l a p k hl]
  have hv : bits .xor .u8 (l[a / 8 + k].toNat : Int) ((p : Int) * 2 ^ (8 - a % 8) % 4294967296 / 2 ^ (16 - 8 * k) % 256) = ((l[a / 8 + k] ^^^ Crc.mask a p k).toNat : Int) := by
    have e1 : (p : Int) * 2 ^ (8 - a % 8) % 4294967296 / 2 ^ (16 - 8 * k) % 256 = ((p * 2 ^ (8 - a % 8) / 2 ^ (16 - 8 * k) % 256 : Nat) : Int) := by
      have : (p : Int) * 2 ^ (8 - a % 8) = ((p * 2 ^ (8 - a % 8) : Nat) : Int) := by simp
      rw [this]
      have h2 : ((p * 2 ^ (8 - a % 8) : Nat) : Int) % 4294967296 = ((p * 2 ^ (8 - a % 8) : Nat) : Int) := by omega
      rw [h2]
      simp
    rw [e1, u8_xor_nat _ _ (UInt8.toNat_lt _) (Nat.mod_lt _ (by decide))]
    congr 1
  rw [hv]
  exact bytesAt_drew (bytesAt_set h _ (by rw [Crc.part_length]; exact hl) _)
theorem strOfNums_bytes (l : List UInt8) : strOfNums (l.map fun c => (c.toNat : Int)) = ⟨l.toArray⟩ := by
  simp [strOfNums, Function.comp_def]
set_option maxRecDepth 100000 in
theorem burst_any (s : ByteArray) (hs : s.size * 8 ≤ maxLen) (at_ : Int) (p : Nat) (hp : p < 65536) (w : World) :
    Calls Tryd.prog 52 #[.string s, .int .i64 at_, .int .u16 (p : Int)] w fun e w' => e = .returned (.string (Crc.burst s at_ p)) ∧ Below w.heap.size w w' := by
  unfold maxLen at hs
  by_cases h0 : at_ < 0
  · have hf := Lib.hid (Crc.burst_out s at_ p (.inl h0))
    go_enter Tryd.func52, Tryd.ntmps52
    go_wp2
    go_ret
    exact ⟨by rw [hf.out]; rfl, Below.refl _ _⟩
  · by_cases h1 : 8 * (s.size : Int) ≤ at_
    · have hf := Lib.hid (Crc.burst_out s at_ p (.inr h1))
      go_enter Tryd.func52, Tryd.ntmps52
      go_wp2
      go_ret
      exact ⟨by rw [hf.out]; rfl, Below.refl _ _⟩
    · obtain ⟨a, rfl⟩ := Int.eq_ofNat_of_zero_le (Int.not_lt.1 h0)
      have ha : a < 8 * s.size := by omega
      have hcv := @Lib.run_convert_string_bytes Tryd.prog w 9 61 5 s .string (by kernel_rfl) (by kernel_rfl) (by kernel_rfl)
      go_enter Tryd.func52, Tryd.ntmps52
      go_wp2
      have hW : p * 2 ^ (8 - a % 8) < 4294967296 := by
        have : 2 ^ (8 - a % 8) ≤ 2 ^ 8 := Nat.pow_le_pow_right (by decide) (by omega)
        exact Nat.lt_of_le_of_lt (Nat.mul_le_mul (Nat.le_of_lt hp) this) (by decide)
      go_loopw [9] (fun i wr => ∃ k : Nat, k ≤ 3 ∧ a / 8 + k ≤ s.size ∧ i = .int .i64 ((a / 8 + k : Nat) : Int) ∧ BytesAt wr w.heap.size (Crc.part s.data.toList a p k) ∧ Below w.heap.size w wr)
        (fun i _ => s.size - (intOf i).toNat)
      case atStart => exact ⟨0, by omega, by omega, by go_num, by rw [Crc.part_zero]; exact bytesAt_conv w _ s, below_conv w _ s⟩
      case round =>
        obtain ⟨k, hk, hks, rfl, hB, hbel⟩ := hrel
        by_cases hlt : k < 3 ∧ a / 8 + k < s.size
        · have hlen : (Crc.part s.data.toList a p k).length = s.size := by simp [Crc.part_length]
          have hcell := hB.1 (a / 8 + k) (by omega)
          rw [Crc.part_here _ _ _ _ (by simpa using hlt.2)] at hcell
          have hfro := hB.2 (a / 8 + k) (by omega)
          obtain ⟨h3, hsz⟩ := hlt
          go_wp2
          all_goals
            go_region
            go_wp2
            go_roundw
            case rel => exact ⟨k + 1, by omega, by omega, by go_num, burst_round wr w.heap.size s.data.toList a p k hB h3 (by simpa using hsz) hW, (hbel.setCell (Nat.le_refl _) _).drew⟩
            case measure => simp [intOf]; omega
        · have hend : ¬ ((a : Int) / 8 + (k : Int) < if (s.size : Int) < (a : Int) / 8 + 3 then (s.size : Int) else (a : Int) / 8 + 3) := by split <;> omega
          have hcv2 := run_convert_bytes_arg (P := Tryd.prog) wr 61 5 (by kernel_rfl) (by kernel_rfl) w.heap.size 0 s.size (grownCap w s.size 0 5) ((Crc.part s.data.toList a p k).map fun c => (c.toNat : Int)) (by simp [Crc.part_length]) (fun i hi => by
            have h1 := hB.1 i (by simpa [Crc.part_length] using hi)
            have hi' : i < (Crc.part s.data.toList a p k).length := by simpa [Crc.part_length] using hi
            simp only [Nat.zero_add, h1, List.getD_eq_getElem?_getD, List.getElem?_map, List.getElem?_eq_getElem hi', Option.map_some, Option.getD_some]) 9 (by kernel_rfl)
          have hfin : Crc.burst s (a : Int) p = strOfNums ((Crc.part s.data.toList a p k).map fun c => (c.toNat : Int)) := by
            rw [strOfNums_bytes, Crc.burst, if_neg (by omega), Int.toNat_natCast, Crc.part_end _ a p k hk (by simp; omega)]
          have HF := Lib.hid hfin
          clear hfin
          go_wp2
          all_goals
            go_ret
            exact ⟨by rw [HF.out]; rfl, hbel⟩
end Go.Proofs.YtmehafolnpkmhaaDoor
end
/-! Plain laws on both texts' sums: they are linear, and alike. -/
section
namespace Go.Proofs.YtmehafolnpkmhaaDoor.Crc
/-! ### 1. What is linear -/
theorem xor_swap (a b c d : Nat) : (a ^^^ b) ^^^ (c ^^^ d) = (a ^^^ c) ^^^ (b ^^^ d) := by
  rw [Nat.xor_assoc, ← Nat.xor_assoc b, Nat.xor_comm b c, Nat.xor_assoc c, ← Nat.xor_assoc]
theorem mul_pow_xor (i x y : Nat) : (x ^^^ y) * 2 ^ i = x * 2 ^ i ^^^ y * 2 ^ i := by
  rw [← Nat.shiftLeft_eq, ← Nat.shiftLeft_eq, ← Nat.shiftLeft_eq, Nat.shiftLeft_xor_distrib]
theorem div_pow_xor (i x y : Nat) : (x ^^^ y) / 2 ^ i = x / 2 ^ i ^^^ y / 2 ^ i := by
  rw [← Nat.shiftRight_eq_div_pow, ← Nat.shiftRight_eq_div_pow, ← Nat.shiftRight_eq_div_pow, Nat.shiftRight_xor_distrib]
theorem mod_pow_xor (i x y : Nat) : (x ^^^ y) % 2 ^ i = x % 2 ^ i ^^^ y % 2 ^ i := Nat.xor_mod_two_pow
theorem qt_lin (x y : Nat) : qt (x ^^^ y) = qt x ^^^ qt y := by
  have h : ∀ a b : Fin 16, tab.getD (a.val ^^^ b.val) 0 = tab.getD a.val 0 ^^^ tab.getD b.val 0 := by decide
  unfold qt
  rw [show (16 : Nat) = 2 ^ 4 from rfl, mod_pow_xor]
  exact h ⟨x % 2 ^ 4, Nat.mod_lt _ (by decide)⟩ ⟨y % 2 ^ 4, Nat.mod_lt _ (by decide)⟩
theorem step_lin (s t c d : Nat) : step (s ^^^ t) (c ^^^ d) = step s c ^^^ step t d := by
  unfold step
  dsimp only
  have h16 : ∀ x y : Nat, (x ^^^ y) * 16 % 65536 = x * 16 % 65536 ^^^ y * 16 % 65536 := fun x y => by
    have := mod_pow_xor 16 (x * 2 ^ 4) (y * 2 ^ 4)
    rw [← mul_pow_xor] at this
    exact this
  have h12 : ∀ x y : Nat, (x ^^^ y) / 4096 = x / 4096 ^^^ y / 4096 := div_pow_xor 12
  have h4 : ∀ x y : Nat, (x ^^^ y) / 16 = x / 16 ^^^ y / 16 := div_pow_xor 4
  rw [h16 s t, h12 s t, h4, xor_swap (s / 4096), qt_lin, xor_swap (s * 16 % 65536)]
  generalize s * 16 % 65536 ^^^ qt (s / 4096 ^^^ c / 16) = a
  generalize t * 16 % 65536 ^^^ qt (t / 4096 ^^^ d / 16) = b
  rw [h16, h12, xor_swap (a / 4096), qt_lin, xor_swap]
theorem bit1_eq {n : Nat} (h : n < 65536) : bit1 n = n * 2 % 65536 ^^^ n / 32768 * 4129 := by
  unfold bit1
  split
  · rw [show n / 32768 = 1 from by omega, show n * 2 % 65536 = 2 * n - 65536 from by omega]
  · rw [show n / 32768 = 0 from by omega, show n * 2 % 65536 = 2 * n from by omega]
    simp
theorem bit1_lin {x y : Nat} (hx : x < 65536) (hy : y < 65536) : bit1 (x ^^^ y) = bit1 x ^^^ bit1 y := by
  have hxy : x ^^^ y < 65536 := Nat.xor_lt_two_pow (n := 16) hx hy
  rw [bit1_eq hxy, bit1_eq hx, bit1_eq hy]
  have h1 : (x ^^^ y) * 2 % 65536 = x * 2 % 65536 ^^^ y * 2 % 65536 := by
    have := mod_pow_xor 16 (x * 2 ^ 1) (y * 2 ^ 1)
    rw [← mul_pow_xor] at this
    exact this
  have h2 : (x ^^^ y) / 32768 = x / 32768 ^^^ y / 32768 := div_pow_xor 15 x y
  have h3 : ∀ a b : Fin 2, (a.val ^^^ b.val) * 4129 = a.val * 4129 ^^^ b.val * 4129 := by decide
  rw [h1, h2, h3 ⟨x / 32768, by omega⟩ ⟨y / 32768, by omega⟩, xor_swap]
theorem bits8_lin (k : Nat) {x y : Nat} (hx : x < 65536) (hy : y < 65536) : bits8 k (x ^^^ y) = bits8 k x ^^^ bits8 k y := by
  induction k with
  | zero => rfl
  | succ k ih => rw [bits8, bits8, bits8, ih, bit1_lin (bits8_lt k hx) (bits8_lt k hy)]
theorem rstep_lin {s t c d : Nat} (hs : s < 65536) (ht : t < 65536) (hc : c < 256) (hd : d < 256) : rstep (s ^^^ t) (c ^^^ d) = rstep s c ^^^ rstep t d := by
  unfold rstep
  have h : (c ^^^ d) * 256 = c * 256 ^^^ d * 256 := mul_pow_xor 8 c d
  rw [h, xor_swap, bits8_lin 8 (Nat.xor_lt_two_pow (n := 16) hs (by omega)) (Nat.xor_lt_two_pow (n := 16) ht (by omega))]
/-- Two that are linear, and alike at each bit, are alike. -/
theorem lin_ext (m : Nat) (f g : Nat → Nat) (hf : ∀ x y, x < 2 ^ m → y < 2 ^ m → f (x ^^^ y) = f x ^^^ f y) (hg : ∀ x y, x < 2 ^ m → y < 2 ^ m → g (x ^^^ y) = g x ^^^ g y)
    (hb : ∀ i, i < m → f (2 ^ i) = g (2 ^ i)) : ∀ k, k ≤ m → ∀ x, x < 2 ^ k → f x = g x := by
  have h0 : ∀ (f : Nat → Nat), (∀ x y, x < 2 ^ m → y < 2 ^ m → f (x ^^^ y) = f x ^^^ f y) → f 0 = 0 := fun f hf => by
    have := hf 0 0 (Nat.two_pow_pos m) (Nat.two_pow_pos m)
    rw [Nat.xor_self, Nat.xor_self] at this
    exact this
  intro k
  induction k with
  | zero =>
    intro _ x hx
    obtain rfl : x = 0 := by simp at hx; exact hx
    rw [h0 f hf, h0 g hg]
  | succ k ih =>
    intro hk x hx
    have hkm : 2 ^ k < 2 ^ m := Nat.pow_lt_pow_right (by decide) hk
    rcases Nat.lt_or_ge x (2 ^ k) with h | h
    · exact ih (by omega) x h
    · have hlow : x ^^^ 2 ^ k < 2 ^ k := by
        apply Nat.lt_pow_two_of_testBit
        intro i hi
        rw [Nat.testBit_xor, Nat.testBit_two_pow]
        by_cases e : k = i
        · subst e
          have : x / 2 ^ k = 1 := by
            rw [Nat.pow_succ] at hx
            exact Nat.div_eq_of_lt_le (by omega) (by omega)
          simp [Nat.testBit_eq_decide_div_mod_eq, this]
        · have : x < 2 ^ i := Nat.lt_of_lt_of_le hx (Nat.pow_le_pow_right (by decide) (by omega))
          simp [Nat.testBit_lt_two_pow this, e]
      have e : x = (x ^^^ 2 ^ k) ^^^ 2 ^ k := by rw [Nat.xor_assoc, Nat.xor_self, Nat.xor_zero]
      rw [e, hf _ _ (by omega) hkm, hg _ _ (by omega) hkm, ih (by omega) _ hlow, hb k (by omega)]
theorem step_eq {s c : Nat} (hs : s < 65536) (hc : c < 256) : step s c = rstep s c := by
  have e1 : step s c = step s 0 ^^^ step 0 c := by
    have := step_lin s 0 0 c
    rw [Nat.xor_zero, Nat.zero_xor] at this
    exact this
  have e2 : rstep s c = rstep s 0 ^^^ rstep 0 c := by
    have := rstep_lin hs (by decide : (0 : Nat) < 65536) (by decide : (0 : Nat) < 256) hc
    rw [Nat.xor_zero, Nat.zero_xor] at this
    exact this
  have k1 : ∀ x y, step (x ^^^ y) 0 = step x 0 ^^^ step y 0 := fun x y => by
    have := step_lin x y 0 0
    rw [Nat.xor_self] at this
    exact this
  have k2 : ∀ x y, x < 2 ^ 16 → y < 2 ^ 16 → rstep (x ^^^ y) 0 = rstep x 0 ^^^ rstep y 0 := fun x y hx hy => by
    have := rstep_lin hx hy (by decide : (0 : Nat) < 256) (by decide : (0 : Nat) < 256)
    rw [Nat.xor_self] at this
    exact this
  have f1 : step s 0 = rstep s 0 := lin_ext 16 (fun s => step s 0) (fun s => rstep s 0) (fun x y _ _ => k1 x y) k2 (by decide +kernel) 16 (Nat.le_refl _) s hs
  have l1 : ∀ x y, step 0 (x ^^^ y) = step 0 x ^^^ step 0 y := fun x y => by
    have := step_lin 0 0 x y
    rw [Nat.xor_self] at this
    exact this
  have l2 : ∀ x y, x < 2 ^ 8 → y < 2 ^ 8 → rstep 0 (x ^^^ y) = rstep 0 x ^^^ rstep 0 y := fun x y hx hy => by
    have := rstep_lin (by decide : (0 : Nat) < 65536) (by decide : (0 : Nat) < 65536) hx hy
    rw [Nat.xor_self] at this
    exact this
  have f2 : step 0 c = rstep 0 c := lin_ext 8 (fun c => step 0 c) (fun c => rstep 0 c) (fun x y _ _ => l1 x y) l2 (by decide +kernel) 8 (Nat.le_refl _) c hc
  rw [e1, e2, f1, f2]
theorem more_eq (s : Nat) (h : s < 65536) (l : List UInt8) : more s l = rmore s l := by
  unfold more rmore
  induction l generalizing s with
  | nil => simp
  | cons c l ih =>
    have h1 := step_eq h (UInt8.toNat_lt c)
    have h2 := rstep_lt h (UInt8.toNat_lt c)
    rw [List.foldl_cons, List.foldl_cons, h1]
    generalize rstep s c.toNat = t at *
    exact ih t h2
/-! ### 2. Bytes 0 -/
def zs : Nat → Nat → Nat
  | s, 0 => s
  | s, n + 1 => zs (step s 0) n
def join (a b : Nat) (n : Int) : Nat := if n < 0 then a else zs (a ^^^ 65535) n.toNat ^^^ b
theorem zs_lt {s : Nat} (h : s < 65536) (n : Nat) : zs s n < 65536 := by
  induction n generalizing s with
  | zero => exact h
  | succ n ih => exact ih (step_lt s 0)
theorem zs_add (s a b : Nat) : zs s (a + b) = zs (zs s a) b := by
  induction a generalizing s with
  | zero => simp [zs]
  | succ a ih => rw [Nat.succ_add, zs, zs, ih]
theorem step0_lin (s t : Nat) : step (s ^^^ t) 0 = step s 0 ^^^ step t 0 := by
  have := step_lin s t 0 0
  rw [Nat.xor_self] at this
  exact this
theorem zs_odd (s c k : Nat) (h : k % 2 = 1) : zs (zs s c) (2 * c * (k / 2)) = zs s (c * k) := by
  rw [← zs_add]
  congr 1
  have e : k = 1 + 2 * (k / 2) := by omega
  generalize k / 2 = j at *
  subst e
  rw [Nat.mul_add, Nat.mul_one, Nat.mul_comm 2 c, Nat.mul_assoc]
theorem zs_even (s c k : Nat) (h : ¬ k % 2 = 1) : zs s (2 * c * (k / 2)) = zs s (c * k) := by
  congr 1
  have e : k = 2 * (k / 2) := by omega
  generalize k / 2 = j at *
  subst e
  rw [Nat.mul_comm 2 c, Nat.mul_assoc]
theorem zs_lin (s t n : Nat) : zs (s ^^^ t) n = zs s n ^^^ zs t n := by
  induction n generalizing s t with
  | zero => rfl
  | succ n ih => rw [zs, zs, zs, step0_lin, ih]
theorem more_zeros (s n : Nat) : more s (List.replicate n 0) = zs s n := by
  induction n generalizing s with
  | zero => rfl
  | succ n ih =>
    rw [List.replicate_succ]
    exact ih (step s 0)
theorem more_one (s : Nat) : more s [0] = zs s 1 := rfl
theorem timesTo_lin (m : List Nat) (s t k : Nat) : timesTo m (s ^^^ t) k = timesTo m s k ^^^ timesTo m t k := by
  induction k with
  | zero => simp [timesTo]
  | succ k ih =>
    unfold timesTo
    rw [ih, div_pow_xor]
    have hx : (s / 2 ^ k ^^^ t / 2 ^ k) % 2 = s / 2 ^ k % 2 ^^^ t / 2 ^ k % 2 := mod_pow_xor 1 _ _
    rw [hx]
    have h1 : s / 2 ^ k % 2 = 0 ∨ s / 2 ^ k % 2 = 1 := by omega
    have h2 : t / 2 ^ k % 2 = 0 ∨ t / 2 ^ k % 2 = 1 := by omega
    generalize timesTo m s k = a
    generalize timesTo m t k = b
    generalize m.getD k 0 = c
    rcases h1 with h1 | h1 <;> rcases h2 with h2 | h2 <;> rw [h1, h2]
    · simp
    · simp [Nat.xor_assoc]
    · simp only [Nat.xor_zero, if_true, show ¬ (0 : Nat) = 1 from by decide, if_false]
      rw [Nat.xor_assoc, Nat.xor_assoc, Nat.xor_comm b c]
    · simp only [Nat.xor_self, show ¬ (0 : Nat) = 1 from by decide, if_false, if_true]
      rw [xor_swap, Nat.xor_self, Nat.xor_zero]
theorem timesTo_pow (m : List Nat) (i : Nat) : ∀ k, timesTo m (2 ^ i) k = if i < k then m.getD i 0 else 0
  | 0 => rfl
  | k + 1 => by
    unfold timesTo
    rw [timesTo_pow m i k]
    by_cases e : i = k
    · subst e
      rw [Nat.div_self (Nat.two_pow_pos i)]
      simp
    · by_cases h : i < k
      · rw [Nat.div_eq_of_lt (Nat.pow_lt_pow_right (by decide) h), if_neg (by decide), if_pos h, if_pos (by omega)]
      · have h2 : 2 ^ i / 2 ^ k % 2 = 0 := by
          rw [Nat.pow_div (by omega) (by decide), show i - k = (i - k - 1) + 1 from by omega, Nat.pow_succ]
          omega
        rw [h2, if_neg (by decide), if_neg h, if_neg (by omega)]
theorem pow_lt16 {i : Nat} (h : i < 16) : 2 ^ i < 65536 := Nat.pow_lt_pow_right (a := 2) (by decide) h
/-- A matrix of so many bytes 0. -/
structure IsMat (m : List Nat) (c : Nat) : Prop where
  len : m.length = 16
  lt : ∀ x ∈ m, x < 65536
  does : ∀ s, s < 65536 → timesTo m s 16 = zs s c
theorem isMat_of {m : List Nat} {c : Nat} (hl : m.length = 16) (h : ∀ i, i < 16 → m.getD i 0 = zs (2 ^ i) c) : IsMat m c := by
  refine ⟨hl, fun x hx => ?_, fun s hs => ?_⟩
  · obtain ⟨i, hi, rfl⟩ := List.getElem_of_mem hx
    have := h i (by omega)
    rw [List.getD_eq_getElem?_getD, List.getElem?_eq_getElem hi, Option.getD_some] at this
    rw [this]
    exact zs_lt (pow_lt16 (by omega)) c
  · refine lin_ext 16 (fun s => timesTo m s 16) (fun s => zs s c) (fun x y _ _ => timesTo_lin m x y 16) (fun x y _ _ => zs_lin x y c) (fun i hi => ?_) 16 (Nat.le_refl _) s hs
    show timesTo m (2 ^ i) 16 = zs (2 ^ i) c
    rw [timesTo_pow, if_pos hi]
    exact h i hi
theorem isMat_one : IsMat one 1 := isMat_of (by simp [one]) fun i hi => by
  simp [one, List.getD_eq_getElem?_getD, hi, more_one]
theorem isMat_twice {m : List Nat} {c : Nat} (h : IsMat m c) : IsMat (twice m) (2 * c) := isMat_of (by simp [twice]) fun i hi => by
  have hx : m.getD i 0 < 65536 := getD_lt h.lt i
  have e : (twice m).getD i 0 = timesTo m (m.getD i 0) 16 := by simp [twice, List.getD_eq_getElem?_getD, hi]
  have e2 := h.does (2 ^ i) (pow_lt16 hi)
  rw [timesTo_pow, if_pos hi] at e2
  rw [e, h.does _ hx, e2, ← zs_add, Nat.two_mul]
end Go.Proofs.YtmehafolnpkmhaaDoor.Crc
end
/-! Plain laws on seals and bursts. -/
section
namespace Go.Proofs.YtmehafolnpkmhaaDoor.Crc
theorem more_append (s : Nat) (a b : List UInt8) : more s (a ++ b) = more (more s a) b := by simp [more]
theorem more_cons (s : Nat) (c : UInt8) (l : List UInt8) : more s (c :: l) = more (step s c.toNat) l := rfl
theorem more_nil (s : Nat) : more s [] = s := rfl
theorem rsealed_eq (s : ByteArray) : rsealed s = sealed s := by
  unfold rsealed sealed
  rw [more_eq 65535 (by decide)]
/-! ### 1. A seal -/
theorem seal_zero {u : Nat} (hu : u < 65536) : step (step u (u / 256)) (u % 256) = 0 := by
  have hl : ∀ x y, x < 2 ^ 16 → y < 2 ^ 16 → step (step (x ^^^ y) ((x ^^^ y) / 256)) ((x ^^^ y) % 256) = step (step x (x / 256)) (x % 256) ^^^ step (step y (y / 256)) (y % 256) := fun x y _ _ => by
    have h1 : (x ^^^ y) / 256 = x / 256 ^^^ y / 256 := div_pow_xor 8 x y
    have h2 : (x ^^^ y) % 256 = x % 256 ^^^ y % 256 := mod_pow_xor 8 x y
    rw [h1, h2, step_lin, step_lin]
  exact lin_ext 16 (fun u => step (step u (u / 256)) (u % 256)) (fun _ => 0) hl (fun _ _ _ _ => rfl) (by decide +kernel) 16 (Nat.le_refl _) u hu
theorem bit1_zero {x : Nat} (h : bit1 x = 0) : x = 0 := by
  unfold bit1 at h
  split at h
  · rename_i h2
    have : 2 * x - 65536 = 4129 := by
      have e := congrArg (· ^^^ 4129) h
      simpa [Nat.xor_assoc] using e
    omega
  · omega
theorem bits8_zero : ∀ (k : Nat) {x : Nat}, bits8 k x = 0 → x = 0
  | 0, _, h => h
  | k + 1, _, h => bits8_zero k (bit1_zero h)
theorem step0_zero {x : Nat} (hx : x < 65536) (h : step x 0 = 0) : x = 0 := by
  rw [step_eq hx (by decide)] at h
  have := bits8_zero 8 h
  simpa using this
theorem zs_zero {x : Nat} (hx : x < 65536) : ∀ n, zs x n = 0 → x = 0 := by
  intro n
  induction n generalizing x with
  | zero => exact fun h => h
  | succ n ih => exact fun h => step0_zero hx (ih (step_lt x 0) h)
theorem one_byte {c : Nat} (hc : c < 256) (h : step 0 c = 0) : c = 0 := by
  rw [step_eq (by decide) hc] at h
  have h2 := bits8_zero 8 h
  rw [Nat.zero_xor] at h2
  omega
theorem two_bytes_eq {y : Nat} (hy : y < 65536) : step (step 0 (y / 256)) (y % 256) = bits8 16 y := by
  have hl : ∀ x y, x < 2 ^ 16 → y < 2 ^ 16 → step (step 0 ((x ^^^ y) / 256)) ((x ^^^ y) % 256) = step (step 0 (x / 256)) (x % 256) ^^^ step (step 0 (y / 256)) (y % 256) := fun x y _ _ => by
    have h1 : (x ^^^ y) / 256 = x / 256 ^^^ y / 256 := div_pow_xor 8 x y
    have h2 : (x ^^^ y) % 256 = x % 256 ^^^ y % 256 := mod_pow_xor 8 x y
    have e := step_lin 0 0 (x / 256) (y / 256)
    rw [Nat.xor_self] at e
    rw [h1, h2, e, step_lin]
  exact lin_ext 16 (fun y => step (step 0 (y / 256)) (y % 256)) (fun y => bits8 16 y) hl (fun x y hx hy => bits8_lin 16 hx hy) (by decide +kernel) 16 (Nat.le_refl _) y hy
theorem two_bytes {a b : Nat} (ha : a < 256) (hb : b < 256) (h : step (step 0 a) b = 0) : a = 0 ∧ b = 0 := by
  have e := two_bytes_eq (y := a * 256 + b) (by omega)
  rw [show (a * 256 + b) / 256 = a from by omega, show (a * 256 + b) % 256 = b from by omega, h] at e
  have := bits8_zero 16 e.symm
  omega
/-- A burst over three bytes, from bit r of the first one on. -/
def over3 (r p : Nat) : Nat := step (step (step 0 (p * 2 ^ (8 - r) / 2 ^ 16 % 256)) (p * 2 ^ (8 - r) / 2 ^ 8 % 256)) (p * 2 ^ (8 - r) / 2 ^ 0 % 256)
theorem over3_lin (r x y : Nat) : over3 r (x ^^^ y) = over3 r x ^^^ over3 r y := by
  have h : ∀ j, (x ^^^ y) * 2 ^ (8 - r) / 2 ^ j % 256 = x * 2 ^ (8 - r) / 2 ^ j % 256 ^^^ y * 2 ^ (8 - r) / 2 ^ j % 256 := fun j => by
    rw [mul_pow_xor, div_pow_xor]
    exact mod_pow_xor 8 _ _
  unfold over3
  rw [h 16, h 8, h 0]
  have e := step_lin 0 0 (x * 2 ^ (8 - r) / 2 ^ 16 % 256) (y * 2 ^ (8 - r) / 2 ^ 16 % 256)
  rw [Nat.xor_self] at e
  rw [e, step_lin, step_lin]
theorem over3_basis : ∀ r : Fin 8, ∀ i : Fin 16, over3 r.val (2 ^ i.val) = bits8 (24 - r.val) (2 ^ i.val) := by decide +kernel
theorem over3_zero {r p : Nat} (hr : r < 8) (hp : p < 65536) (h : over3 r p = 0) : p = 0 := by
  have e : over3 r p = bits8 (24 - r) p := lin_ext 16 (fun p => over3 r p) (fun p => bits8 (24 - r) p) (fun x y _ _ => over3_lin r x y) (fun x y hx hy => bits8_lin (24 - r) hx hy) (fun i hi => over3_basis ⟨r, hr⟩ ⟨i, hi⟩) 16 (Nat.le_refl _) p hp
  rw [h] at e
  exact bits8_zero _ e.symm
end Go.Proofs.YtmehafolnpkmhaaDoor.Crc
end
/-! Plain laws on bursts: what is turned, and that it is found. -/
section
namespace Go.Proofs.YtmehafolnpkmhaaDoor.Crc
/-! ### 1. A burst, place by place -/
theorem part_getElem (l : List UInt8) (a p k i : Nat) (h : i < (part l a p k).length) :
    (part l a p k)[i] = if a / 8 ≤ i ∧ i < a / 8 + k then l[i]'(by rw [part_length] at h; exact h) ^^^ mask a p (i - a / 8) else l[i]'(by rw [part_length] at h; exact h) := by
  simp only [part, List.getElem_mapIdx]
theorem part_twice (l : List UInt8) (a p k : Nat) : part (part l a p k) a p k = l := by
  apply List.ext_getElem
  · simp [part_length]
  · intro i h1 h2
    rw [part_getElem]
    simp only [part_getElem]
    split
    · rw [UInt8.xor_assoc, UInt8.xor_self, UInt8.xor_zero]
    · rfl
theorem burst_size (s : ByteArray) (at_ : Int) (p : Nat) : (burst s at_ p).size = s.size := by
  unfold burst
  split
  · rfl
  · show (part s.data.toList at_.toNat p 3).toArray.size = s.size
    simp [part_length]
theorem burst_twice (s : ByteArray) (at_ : Int) (p : Nat) : burst (burst s at_ p) at_ p = s := by
  by_cases h : at_ < 0 ∨ 8 * (s.size : Int) ≤ at_
  · rw [burst_out s at_ p h, burst_out s at_ p h]
  · have e : burst s at_ p = ⟨(part s.data.toList at_.toNat p 3).toArray⟩ := by rw [burst, if_neg h]
    have hs := burst_size s at_ p
    rw [burst, hs, if_neg h, e]
    show (⟨(part (part s.data.toList at_.toNat p 3) at_.toNat p 3).toArray⟩ : ByteArray) = s
    rw [part_twice]
/-! ### 2. The reference's, bit by bit -/
/-- What the first k bits turn at byte j of the burst. -/
def fm (r p j : Nat) : Nat → Nat
  | 0 => 0
  | k + 1 => if p / 2 ^ (15 - k) % 2 = 1 ∧ (r + k) / 8 = j then fm r p j k ^^^ 2 ^ (7 - (r + k) % 8) else fm r p j k
theorem fm_lt (r p j k : Nat) : fm r p j k < 256 := by
  induction k with
  | zero => exact (by decide : (0 : Nat) < 256)
  | succ k ih =>
    unfold fm
    split
    · exact Nat.xor_lt_two_pow (n := 8) ih (Nat.pow_lt_pow_right (by decide) (by omega))
    · exact ih
theorem fm_lin (r x y j k : Nat) : fm r (x ^^^ y) j k = fm r x j k ^^^ fm r y j k := by
  induction k with
  | zero => simp [fm]
  | succ k ih =>
    unfold fm
    rw [ih, div_pow_xor]
    have hx : (x / 2 ^ (15 - k) ^^^ y / 2 ^ (15 - k)) % 2 = x / 2 ^ (15 - k) % 2 ^^^ y / 2 ^ (15 - k) % 2 := mod_pow_xor 1 _ _
    rw [hx]
    by_cases hj : (r + k) / 8 = j
    · have h1 : x / 2 ^ (15 - k) % 2 = 0 ∨ x / 2 ^ (15 - k) % 2 = 1 := by omega
      have h2 : y / 2 ^ (15 - k) % 2 = 0 ∨ y / 2 ^ (15 - k) % 2 = 1 := by omega
      generalize fm r x j k = a
      generalize fm r y j k = b
      generalize 2 ^ (7 - (r + k) % 8) = c
      rcases h1 with h1 | h1 <;> rcases h2 with h2 | h2 <;> rw [h1, h2] <;> simp [hj]
      · rw [Nat.xor_assoc]
      · rw [Nat.xor_assoc, Nat.xor_assoc, Nat.xor_comm b c]
      · rw [xor_swap, Nat.xor_self, Nat.xor_zero]
    · simp [hj]
theorem fm_basis : ∀ r : Fin 8, ∀ j : Fin 3, ∀ i : Fin 16, fm r.val (2 ^ i.val) j.val 16 = 2 ^ i.val * 2 ^ (8 - r.val) / 2 ^ (16 - 8 * j.val) % 256 := by decide +kernel
theorem fm_mask (r p j : Nat) (hr : r < 8) (hj : j < 3) (hp : p < 65536) : fm r p j 16 = p * 2 ^ (8 - r) / 2 ^ (16 - 8 * j) % 256 :=
  lin_ext 16 (fun p => fm r p j 16) (fun p => p * 2 ^ (8 - r) / 2 ^ (16 - 8 * j) % 256) (fun x y _ _ => fm_lin r x y j 16)
    (fun x y _ _ => by
      show (x ^^^ y) * 2 ^ (8 - r) / 2 ^ (16 - 8 * j) % 256 = _
      rw [mul_pow_xor, div_pow_xor]
      exact mod_pow_xor 8 _ _) (fun i hi => fm_basis ⟨r, hr⟩ ⟨j, hj⟩ ⟨i, hi⟩) 16 (Nat.le_refl _) p hp
theorem fm_far (r p j k : Nat) (hr : r < 8) (hj : 3 ≤ j) (hk : k ≤ 16) : fm r p j k = 0 := by
  induction k with
  | zero => rfl
  | succ k ih =>
    unfold fm
    rw [if_neg (by omega)]
    exact ih (by omega)
theorem flips_getElem (l : List UInt8) (a p k i : Nat) (h : i < (flips l a p k).length) :
    (flips l a p k)[i] = l[i]'(by rw [flips_length] at h; exact h) ^^^ UInt8.ofNat (if a / 8 ≤ i then fm (a % 8) p (i - a / 8) k else 0) := by
  induction k with
  | zero => simp [flips, fm]
  | succ k ih =>
    have hi : i < l.length := by rw [flips_length] at h; exact h
    have hik : i < (flips l a p k).length := by rw [flips_length]; exact hi
    have hq : (a + k) / 8 = a / 8 + (a % 8 + k) / 8 := by omega
    have hr : (a + k) % 8 = (a % 8 + k) % 8 := by omega
    by_cases hbit : p / 2 ^ (15 - k) % 2 = 1
    · by_cases hin : k < 8 * l.length - a
      · have e : flips l a p (k + 1) = (flips l a p k).set ((a + k) / 8) ((flips l a p k).getD ((a + k) / 8) 0 ^^^ UInt8.ofNat (2 ^ (7 - (a + k) % 8))) := by
          rw [flips, if_pos ⟨hbit, hin⟩]
        simp only [e, List.getElem_set]
        by_cases hpl : (a + k) / 8 = i
        · rw [if_pos hpl, hpl, List.getD_eq_getElem?_getD, List.getElem?_eq_getElem hik, Option.getD_some, ih hik, if_pos (by omega), if_pos (by omega), UInt8.xor_assoc]
          congr 1
          rw [fm, if_pos ⟨hbit, by omega⟩, hr]
          apply UInt8.toNat_inj.1
          have h1 := fm_lt (a % 8) p (i - a / 8) k
          have h2 : 2 ^ (7 - (a % 8 + k) % 8) < 256 := show 2 ^ (7 - (a % 8 + k) % 8) < 2 ^ 8 from Nat.pow_lt_pow_right (by decide) (by omega)
          have h3 : fm (a % 8) p (i - a / 8) k ^^^ 2 ^ (7 - (a % 8 + k) % 8) < 256 := Nat.xor_lt_two_pow (n := 8) h1 h2
          rw [UInt8.toNat_xor, UInt8.toNat_ofNat', UInt8.toNat_ofNat', UInt8.toNat_ofNat', Nat.mod_eq_of_lt h1, Nat.mod_eq_of_lt h2, Nat.mod_eq_of_lt h3]
        · rw [if_neg hpl, ih hik]
          congr 2
          by_cases hle : a / 8 ≤ i
          · rw [if_pos hle, if_pos hle, fm, if_neg (by omega)]
          · rw [if_neg hle, if_neg hle]
      · have e : flips l a p (k + 1) = flips l a p k := by rw [flips, if_neg (fun hh => hin hh.2)]
        simp only [e]
        rw [ih hik]
        congr 2
        by_cases hle : a / 8 ≤ i
        · rw [if_pos hle, if_pos hle, fm, if_neg (by omega)]
        · rw [if_neg hle, if_neg hle]
    · have e : flips l a p (k + 1) = flips l a p k := by rw [flips, if_neg (fun hh => hbit hh.1)]
      simp only [e]
      rw [ih hik]
      congr 2
      by_cases hle : a / 8 ≤ i
      · rw [if_pos hle, if_pos hle, fm, if_neg (fun hh => hbit hh.1)]
      · rw [if_neg hle, if_neg hle]
theorem flips_eq (l : List UInt8) (a p : Nat) (hp : p < 65536) : flips l a p 16 = part l a p 3 := by
  apply List.ext_getElem
  · rw [flips_length, part_length]
  · intro i h1 h2
    rw [flips_getElem, part_getElem]
    by_cases hle : a / 8 ≤ i
    · rw [if_pos hle]
      by_cases h3 : i < a / 8 + 3
      · rw [if_pos ⟨hle, h3⟩, fm_mask _ _ _ (Nat.mod_lt _ (by decide)) (by omega) hp, mask]
        congr 1
        apply UInt8.toNat_inj.1
        rw [UInt8.toNat_ofNat', UInt8.toNat_ofNat']
        omega
      · rw [if_neg (fun hh => h3 hh.2), fm_far _ _ _ _ (Nat.mod_lt _ (by decide)) (by omega) (Nat.le_refl _)]
        simp
    · rw [if_neg hle, if_neg (fun hh => hle hh.1)]
      simp
theorem rburst_eq (s : ByteArray) (at_ : Int) (p : Nat) (hp : p < 65536) : rburst s at_ p = burst s at_ p := by
  unfold rburst burst
  rw [flips_eq _ _ _ hp]
/-! ### 3. A burst that turns something is found -/
theorem zero_byte {c : UInt8} (h : c.toNat = 0) : c = 0 := UInt8.toNat_inj.1 h
theorem u8_xor_zero (x : UInt8) {c : UInt8} (h : c.toNat = 0) : x ^^^ c = x := by
  rw [zero_byte h, UInt8.xor_zero]
/-- The first bytes turned by three. -/
def front (m0 m1 m2 : UInt8) : List UInt8 → List UInt8
  | [] => []
  | [x] => [x ^^^ m0]
  | [x, y] => [x ^^^ m0, y ^^^ m1]
  | x :: y :: z :: r => (x ^^^ m0) :: (y ^^^ m1) :: (z ^^^ m2) :: r
def from_ (m0 m1 m2 : UInt8) : Nat → List UInt8 → List UInt8
  | 0, l => front m0 m1 m2 l
  | _ + 1, [] => []
  | q + 1, c :: l => c :: from_ m0 m1 m2 q l
theorem step_xor (s d : Nat) (c e : UInt8) : step (s ^^^ d) (c ^^^ e).toNat = step s c.toNat ^^^ step d e.toNat := by
  rw [UInt8.toNat_xor, step_lin]
theorem more_diff (s d : Nat) (r : List UInt8) : more (s ^^^ d) r = more s r ^^^ zs d r.length := by
  induction r generalizing s d with
  | nil => rfl
  | cons c r ih =>
    have e := step_lin s d c.toNat 0
    rw [Nat.xor_zero] at e
    rw [more_cons, more_cons, e, ih]
    rfl
theorem xor_eq_self {a b : Nat} (h : a ^^^ b = a) : b = 0 := by
  have := congrArg (a ^^^ ·) h
  simpa [← Nat.xor_assoc] using this
theorem front_found (m0 m1 m2 : UInt8) (h3 : step (step (step 0 m0.toNat) m1.toNat) m2.toNat = 0 → m0.toNat = 0 ∧ m1.toNat = 0 ∧ m2.toNat = 0) (s : Nat) (l : List UInt8)
    (h : more s (front m0 m1 m2 l) = more s l) : front m0 m1 m2 l = l := by
  have x0 : ∀ x : UInt8, step s (x ^^^ m0).toNat = step s x.toNat ^^^ step 0 m0.toNat := fun x => by
    have := step_xor s 0 x m0
    rw [Nat.xor_zero] at this
    exact this
  match l with
  | [] => rfl
  | [x] =>
    simp only [front, more_cons, more_nil, x0] at h
    have := one_byte (UInt8.toNat_lt m0) (xor_eq_self h)
    simp only [front, u8_xor_zero x this]
  | [x, y] =>
    simp only [front, more_cons, more_nil, x0, step_xor] at h
    have := two_bytes (UInt8.toNat_lt m0) (UInt8.toNat_lt m1) (xor_eq_self h)
    simp only [front, u8_xor_zero x this.1, u8_xor_zero y this.2]
  | x :: y :: z :: r =>
    simp only [front, more_cons, x0, step_xor] at h
    rw [more_diff] at h
    have hz := h3 (zs_zero (step_lt _ _) _ (xor_eq_self h))
    simp only [front, u8_xor_zero x hz.1, u8_xor_zero y hz.2.1, u8_xor_zero z hz.2.2]
theorem from_found (m0 m1 m2 : UInt8) (h3 : step (step (step 0 m0.toNat) m1.toNat) m2.toNat = 0 → m0.toNat = 0 ∧ m1.toNat = 0 ∧ m2.toNat = 0) :
    ∀ (q s : Nat) (l : List UInt8), more s (from_ m0 m1 m2 q l) = more s l → from_ m0 m1 m2 q l = l
  | 0, s, l, h => front_found m0 m1 m2 h3 s l h
  | _ + 1, _, [], _ => rfl
  | q + 1, s, c :: l, h => by
    rw [from_, from_found m0 m1 m2 h3 q (step s c.toNat) l h]
theorem front_getElem? (m0 m1 m2 : UInt8) (l : List UInt8) (i : Nat) : (front m0 m1 m2 l)[i]? = l[i]?.map fun x => if i = 0 then x ^^^ m0 else if i = 1 then x ^^^ m1 else if i = 2 then x ^^^ m2 else x := by
  match l with
  | [] => simp [front]
  | [x] => match i with
    | 0 => simp [front]
    | i + 1 => simp [front]
  | [x, y] => match i with
    | 0 => simp [front]
    | 1 => simp [front]
    | i + 2 => simp [front]
  | x :: y :: z :: r => match i with
    | 0 => simp [front]
    | 1 => simp [front]
    | 2 => simp [front]
    | i + 3 => simp [front]
theorem from_getElem? (m0 m1 m2 : UInt8) : ∀ (q : Nat) (l : List UInt8) (i : Nat), (from_ m0 m1 m2 q l)[i]? = l[i]?.map fun x => if i = q then x ^^^ m0 else if i = q + 1 then x ^^^ m1 else if i = q + 2 then x ^^^ m2 else x
  | 0, l, i => by simpa [from_] using front_getElem? m0 m1 m2 l i
  | q + 1, [], i => by simp [from_]
  | q + 1, c :: l, 0 => by simp [from_]
  | q + 1, c :: l, i + 1 => by
    simp only [from_, List.getElem?_cons_succ, from_getElem? m0 m1 m2 q l i]
    congr 1
    funext x
    simp
theorem part_from (l : List UInt8) (a p : Nat) : part l a p 3 = from_ (mask a p 0) (mask a p 1) (mask a p 2) (a / 8) l := by
  apply List.ext_getElem?
  intro i
  rw [from_getElem?]
  simp only [part, List.getElem?_mapIdx]
  congr 1
  funext x
  by_cases h0 : i = a / 8
  · subst h0; simp
  · rw [if_neg h0]
    by_cases h1 : i = a / 8 + 1
    · subst h1; simp
    · rw [if_neg h1]
      by_cases h2 : i = a / 8 + 2
      · subst h2; simp
      · rw [if_neg h2, if_neg (by omega)]
theorem masks_zero (a p : Nat) (hp : p < 65536) (h : step (step (step 0 (mask a p 0).toNat) (mask a p 1).toNat) (mask a p 2).toNat = 0) :
    (mask a p 0).toNat = 0 ∧ (mask a p 1).toNat = 0 ∧ (mask a p 2).toNat = 0 := by
  have e : ∀ k, (mask a p k).toNat = p * 2 ^ (8 - a % 8) / 2 ^ (16 - 8 * k) % 256 := fun k => by
    rw [mask, UInt8.toNat_ofNat']
  rw [e 0, e 1, e 2] at h ⊢
  have hp0 := over3_zero (Nat.mod_lt a (by decide : 8 > 0)) hp h
  subst hp0
  simp
theorem part_found (l : List UInt8) (a p : Nat) (hp : p < 65536) (s : Nat) (h : more s (part l a p 3) = more s l) : part l a p 3 = l := by
  rw [part_from] at h ⊢
  exact from_found _ _ _ (masks_zero a p hp) _ _ _ h
theorem burst_found (t : ByteArray) (at_ : Int) (p : Nat) (hp : p < 65536) (h0 : more 65535 t.data.toList = 0) (h : burst t at_ p ≠ t) : more 65535 (burst t at_ p).data.toList ≠ 0 := by
  intro hz
  apply h
  by_cases hc : at_ < 0 ∨ 8 * (t.size : Int) ≤ at_
  · exact burst_out t at_ p hc
  · have e : burst t at_ p = ⟨(part t.data.toList at_.toNat p 3).toArray⟩ := by rw [burst, if_neg hc]
    rw [e] at hz ⊢
    have := part_found t.data.toList at_.toNat p hp 65535 (by rw [h0]; exact hz)
    rw [this]
/-! ### 4. What is opened -/
theorem two_list (u : Nat) (hu : u < 65536) : (two u).data.toList = [UInt8.ofNat (u / 256), UInt8.ofNat (u % 256)] := by
  rw [two, strOfNums_data]
  simp only [List.map_cons, List.map_nil]
  rw [show ((u : Int) / 256).toNat = u / 256 from by omega, show ((u : Int) % 256).toNat = u % 256 from by omega]
theorem seal_more (l : List UInt8) (u : Nat) (hu : u < 65536) (h : more 65535 l = u) : more 65535 (l ++ [UInt8.ofNat (u / 256), UInt8.ofNat (u % 256)]) = 0 := by
  rw [more_append, h, more_cons, more_cons, more_nil, UInt8.toNat_ofNat', UInt8.toNat_ofNat', Nat.mod_eq_of_lt (a := u / 256) (by omega), Nat.mod_eq_of_lt (a := u % 256) (by omega)]
  exact seal_zero hu
theorem sealed_list (s : ByteArray) : (sealed s).data.toList = s.data.toList ++ [UInt8.ofNat (more 65535 s.data.toList / 256), UInt8.ofNat (more 65535 s.data.toList % 256)] := by
  have := more_lt 65535 (by decide) s.data.toList
  rw [sealed, ByteArray.data_append, Array.toList_append, two_list _ this]
theorem sealed_size (s : ByteArray) : (sealed s).size = s.size + 2 := by
  have := congrArg List.length (sealed_list s)
  simpa using this
theorem sealed_zero (s : ByteArray) : more 65535 (sealed s).data.toList = 0 := by
  rw [sealed_list]
  exact seal_more _ _ (more_lt 65535 (by decide) _) rfl
theorem extract_list (s : ByteArray) (n : Nat) : (s.extract 0 n).data.toList = s.data.toList.take n := by
  simp [ByteArray.data_extract]
theorem ext_list {s t : ByteArray} (h : s.data.toList = t.data.toList) : s = t := by
  cases s; cases t
  simp only at h
  congr
  exact Array.toList_inj.1 h
theorem open_sealed (s : ByteArray) : opened (sealed s) = (s, true) := by
  rw [opened_yes _ (by rw [sealed_size]; omega) (sealed_zero s)]
  congr 1
  apply ext_list
  rw [extract_list, sealed_size, sealed_list]
  simp
theorem open_just (s : ByteArray) (h2 : 2 ≤ s.size) : more 65535 s.data.toList = 0 ↔ sealed (s.extract 0 (s.size - 2)) = s := by
  constructor
  · intro h
    have hlen : s.data.toList.length = s.size := by simp
    obtain ⟨x, y, hxy⟩ : ∃ x y, s.data.toList = s.data.toList.take (s.size - 2) ++ [x, y] := by
      have hd : (s.data.toList.drop (s.size - 2)).length = 2 := by simp; omega
      match hq : s.data.toList.drop (s.size - 2), hd with
      | [x, y], _ => exact ⟨x, y, by rw [← hq, List.take_append_drop]⟩
    have hu := more_lt 65535 (by decide) (s.data.toList.take (s.size - 2))
    have hz := seal_more (s.data.toList.take (s.size - 2)) _ hu rfl
    have h' := h
    rw [hxy, more_append] at h'
    rw [more_append] at hz
    generalize hU : more 65535 (s.data.toList.take (s.size - 2)) = u at *
    have ex : x = UInt8.ofNat (u / 256) ^^^ (x ^^^ UInt8.ofNat (u / 256)) := by
      rw [UInt8.xor_comm x, ← UInt8.xor_assoc, UInt8.xor_self, UInt8.zero_xor]
    have ey : y = UInt8.ofNat (u % 256) ^^^ (y ^^^ UInt8.ofNat (u % 256)) := by
      rw [UInt8.xor_comm y, ← UInt8.xor_assoc, UInt8.xor_self, UInt8.zero_xor]
    rw [ex, ey, more_cons, more_cons, more_nil] at h'
    have e1 := step_xor u 0 (UInt8.ofNat (u / 256)) (x ^^^ UInt8.ofNat (u / 256))
    rw [Nat.xor_zero] at e1
    rw [e1, step_xor] at h'
    rw [more_cons, more_cons, more_nil] at hz
    rw [hz, Nat.zero_xor] at h'
    have ⟨z1, z2⟩ := two_bytes (UInt8.toNat_lt _) (UInt8.toNat_lt _) h'
    have zx : x = UInt8.ofNat (u / 256) := by rw [ex, u8_xor_zero _ z1]
    have zy : y = UInt8.ofNat (u % 256) := by rw [ey, u8_xor_zero _ z2]
    apply ext_list
    rw [sealed_list, extract_list, hU, ← zx, ← zy]
    exact hxy.symm
  · intro h
    rw [← h]
    exact sealed_zero _
end Go.Proofs.YtmehafolnpkmhaaDoor.Crc
end
