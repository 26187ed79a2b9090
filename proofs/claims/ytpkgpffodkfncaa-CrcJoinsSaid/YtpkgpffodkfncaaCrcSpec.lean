/- Plain functions: what the two texts of package crc reckon. -/
import Derived.Laws.BitsAllLaws
import Derived.IntWalk
import Derived.Laws.BytesArg
namespace Go.Proofs.Ytpkgpffodkfncaa.Crc
def tab : List Nat := [0, 4129, 8258, 12387, 16516, 20645, 24774, 28903, 33032, 37161, 41290, 45419, 49548, 53677, 57806, 61935]
def qt (n : Nat) : Nat := tab.getD (n % 16) 0
def step (s c : Nat) : Nat :=
  let s1 := s * 16 % 65536 ^^^ qt (s / 4096 ^^^ c / 16)
  s1 * 16 % 65536 ^^^ qt (s1 / 4096 ^^^ c)
def more (s : Nat) (l : List UInt8) : Nat := l.foldl (fun s c => step s c.toNat) s
theorem qt_lt (n : Nat) : qt n < 65536 := by
  unfold qt
  have : n % 16 < 16 := Nat.mod_lt _ (by decide)
  generalize n % 16 = m at *
  have h : ∀ m : Fin 16, tab.getD m.val 0 < 65536 := by decide
  exact h ⟨m, this⟩
theorem step_lt (s c : Nat) : step s c < 65536 := by
  unfold step
  exact Nat.xor_lt_two_pow (n := 16) (Nat.mod_lt _ (by decide)) (qt_lt _)
theorem more_lt (s : Nat) (h : s < 65536) (l : List UInt8) : more s l < 65536 := by
  unfold more
  induction l generalizing s with
  | nil => exact h
  | cons c l ih => exact ih _ (step_lt _ _)
theorem more_snoc (s : Nat) (l : List UInt8) (c : UInt8) : more s (l ++ [c]) = step (more s l) c.toNat := by
  simp [more]
def two (n : Nat) : ByteArray := strOfNums [(n : Int) / 256, (n : Int) % 256]
def sealed (s : ByteArray) : ByteArray := s ++ two (more 65535 s.data.toList)
def opened (s : ByteArray) : ByteArray × Bool := if s.size < 2 ∨ more 65535 s.data.toList ≠ 0 then (⟨#[]⟩, false) else (s.extract 0 (s.size - 2), true)
theorem opened_short (s : ByteArray) (h : s.size < 2) : opened s = (⟨#[]⟩, false) := by simp [opened, h]
theorem opened_no (s : ByteArray) (h : more 65535 s.data.toList ≠ 0) : opened s = (⟨#[]⟩, false) := by simp [opened, h]
theorem opened_yes (s : ByteArray) (h : ¬ s.size < 2) (h2 : more 65535 s.data.toList = 0) : opened s = (s.extract 0 (s.size - 2), true) := by simp [opened, h, h2]
theorem xor_toNat (a b : Nat) (ha : a < 65536) (hb : b < 65536) : (bits .xor .u16 (a : Int) (b : Int)).toNat = a ^^^ b := by
  rw [u16_xor_nat a b ha hb]; simp
theorem xor16_lt {a b : Nat} (ha : a < 65536) (hb : b < 65536) : a ^^^ b < 65536 := Nat.xor_lt_two_pow (n := 16) ha hb
theorem i64_xor_nat (a b : Nat) (ha : a < 2 ^ 63) (hb : b < 2 ^ 63) : bits .xor .i64 (a : Int) (b : Int) = ((a ^^^ b : Nat) : Int) := by
  have hx : a ^^^ b < 2 ^ 63 := Nat.xor_lt_two_pow ha hb
  show IntKind.i64.wrap ((BitVec.ofInt 64 (a : Int) ^^^ BitVec.ofInt 64 (b : Int)).toNat : Int) = _
  rw [BitVec.toNat_xor, BitVec.ofInt_natCast, BitVec.ofInt_natCast, BitVec.toNat_ofNat, BitVec.toNat_ofNat, Nat.mod_eq_of_lt (by omega), Nat.mod_eq_of_lt (by omega)]
  exact IntWalk.i64_in _ (by omega)
/-! The reference: bit by bit. -/
def bit1 (n : Nat) : Nat := if 65536 ≤ 2 * n then (2 * n - 65536) ^^^ 4129 else 2 * n
def bits8 : Nat → Nat → Nat
  | 0, n => n
  | k + 1, n => bit1 (bits8 k n)
def rstep (s c : Nat) : Nat := bits8 8 (s ^^^ c * 256)
def rmore (s : Nat) (l : List UInt8) : Nat := l.foldl (fun s c => rstep s c.toNat) s
theorem bit1_lt {n : Nat} (h : n < 65536) : bit1 n < 65536 := by
  unfold bit1
  split
  · exact Nat.xor_lt_two_pow (n := 16) (by omega) (by decide)
  · omega
theorem bits8_lt (k : Nat) {n : Nat} (h : n < 65536) : bits8 k n < 65536 := by
  induction k with
  | zero => exact h
  | succ k ih => exact bit1_lt ih
theorem rstep_lt {s c : Nat} (h : s < 65536) (hc : c < 256) : rstep s c < 65536 := bits8_lt 8 (Nat.xor_lt_two_pow (n := 16) h (by omega))
theorem rmore_lt (s : Nat) (h : s < 65536) (l : List UInt8) : rmore s l < 65536 := by
  unfold rmore
  induction l generalizing s with
  | nil => exact h
  | cons c l ih =>
    have := rstep_lt h (UInt8.toNat_lt c)
    rw [List.foldl_cons]
    generalize rstep s c.toNat = t at *
    exact ih t this
theorem rmore_snoc (s : Nat) (l : List UInt8) (c : UInt8) : rmore s (l ++ [c]) = rstep (rmore s l) c.toNat := by
  simp [rmore]
theorem bit1_over {n : Nat} (h : n < 65536) (h2 : 65536 ≤ 2 * (n : Int)) : bits .xor .i64 (2 * (n : Int) - 65536) 4129 = ((bit1 n : Nat) : Int) := by
  rw [show 2 * (n : Int) - 65536 = ((2 * n - 65536 : Nat) : Int) from by omega, show (4129 : Int) = ((4129 : Nat) : Int) from rfl, i64_xor_nat _ _ (by omega) (by decide)]
  unfold bit1
  rw [if_pos (by omega)]
theorem bit1_under {n : Nat} (h2 : ¬ 65536 ≤ 2 * (n : Int)) : 2 * (n : Int) = ((bit1 n : Nat) : Int) := by
  unfold bit1
  rw [if_neg (by omega)]
  omega
def rsealed (s : ByteArray) : ByteArray := s ++ two (rmore 65535 s.data.toList)
/-! Bursts. -/
/-- What byte number k of a burst from bit a on is turned by. -/
def mask (a p k : Nat) : UInt8 := UInt8.ofNat (p * 2 ^ (8 - a % 8) / 2 ^ (16 - 8 * k))
/-- The first k bytes of a burst. -/
def part (l : List UInt8) (a p k : Nat) : List UInt8 := l.mapIdx fun i c => if a / 8 ≤ i ∧ i < a / 8 + k then c ^^^ mask a p (i - a / 8) else c
def burst (s : ByteArray) (at_ : Int) (p : Nat) : ByteArray :=
  if at_ < 0 ∨ 8 * (s.size : Int) ≤ at_ then s else ⟨(part s.data.toList at_.toNat p 3).toArray⟩
theorem part_length (l : List UInt8) (a p k : Nat) : (part l a p k).length = l.length := by simp [part]
theorem part_zero (l : List UInt8) (a p : Nat) : part l a p 0 = l := by
  apply List.ext_getElem
  · simp [part]
  · intro i h1 h2
    simp only [part, List.getElem_mapIdx]
    rw [if_neg (by omega)]
theorem part_succ (l : List UInt8) (a p k : Nat) (h : a / 8 + k < l.length) :
    part l a p (k + 1) = (part l a p k).set (a / 8 + k) (l[a / 8 + k] ^^^ mask a p k) := by
  apply List.ext_getElem
  · simp [part]
  · intro i h1 h2
    rw [List.getElem_set]
    simp only [part, List.getElem_mapIdx]
    by_cases e : a / 8 + k = i
    · subst e
      rw [if_pos rfl, if_pos (by omega)]
      congr 2
      omega
    · rw [if_neg e]
      by_cases h3 : a / 8 ≤ i ∧ i < a / 8 + k
      · rw [if_pos h3, if_pos (by omega)]
      · rw [if_neg h3, if_neg (by omega)]
theorem part_here (l : List UInt8) (a p k : Nat) (h : a / 8 + k < l.length) : (part l a p k).getD (a / 8 + k) 0 = l[a / 8 + k] := by
  have : a / 8 + k < (part l a p k).length := by simpa [part] using h
  rw [List.getD_eq_getElem?_getD, List.getElem?_eq_getElem this, Option.getD_some]
  simp only [part, List.getElem_mapIdx]
  rw [if_neg (by omega)]
theorem part_end (l : List UInt8) (a p k : Nat) (h : k ≤ 3) (h2 : k = 3 ∨ l.length ≤ a / 8 + k) : part l a p k = part l a p 3 := by
  apply List.ext_getElem
  · simp [part]
  · intro i h1 h3
    simp [part] at h1
    simp only [part, List.getElem_mapIdx]
    by_cases h4 : a / 8 ≤ i ∧ i < a / 8 + k
    · rw [if_pos h4, if_pos (by omega)]
    · rw [if_neg h4, if_neg (by omega)]
theorem burst_out (s : ByteArray) (at_ : Int) (p : Nat) (h : at_ < 0 ∨ 8 * (s.size : Int) ≤ at_) : burst s at_ p = s := by
  rw [burst, if_pos h]
/-- The first k bits of a burst, one by one. -/
def flips (l : List UInt8) (a p : Nat) : Nat → List UInt8
  | 0 => l
  | k + 1 =>
    if p / 2 ^ (15 - k) % 2 = 1 ∧ k < 8 * l.length - a then
      (flips l a p k).set ((a + k) / 8) ((flips l a p k).getD ((a + k) / 8) 0 ^^^ UInt8.ofNat (2 ^ (7 - (a + k) % 8)))
    else flips l a p k
theorem flips_length (l : List UInt8) (a p k : Nat) : (flips l a p k).length = l.length := by
  induction k with
  | zero => rfl
  | succ k ih =>
    unfold flips
    split
    · simp [ih]
    · exact ih
def rburst (s : ByteArray) (at_ : Int) (p : Nat) : ByteArray :=
  if at_ < 0 ∨ 8 * (s.size : Int) ≤ at_ then s else ⟨(flips s.data.toList at_.toNat p 16).toArray⟩
theorem rburst_out (s : ByteArray) (at_ : Int) (p : Nat) (h : at_ < 0 ∨ 8 * (s.size : Int) ≤ at_) : rburst s at_ p = s := by
  rw [rburst, if_pos h]
/-! Matrices. -/
def timesTo (m : List Nat) (s : Nat) : Nat → Nat
  | 0 => 0
  | k + 1 => if s / 2 ^ k % 2 = 1 then timesTo m s k ^^^ m.getD k 0 else timesTo m s k
theorem getD_lt {m : List Nat} (hm : ∀ x ∈ m, x < 65536) (k : Nat) : m.getD k 0 < 65536 := by
  rw [List.getD_eq_getElem?_getD]
  cases h : m[k]? with
  | none => simp
  | some x => exact hm x (List.mem_of_getElem? h)
theorem timesTo_lt (m : List Nat) (s : Nat) (hm : ∀ x ∈ m, x < 65536) (k : Nat) : timesTo m s k < 65536 := by
  induction k with
  | zero => exact (by decide : (0 : Nat) < 65536)
  | succ k ih =>
    unfold timesTo
    split
    · exact Nat.xor_lt_two_pow (n := 16) ih (getD_lt hm k)
    · exact ih
/-- The first k rows of a matrix' double. -/
def twiceTo (m : List Nat) (k : Nat) : List Nat := (List.range 16).map fun i => if i < k then timesTo m (m.getD i 0) 16 else 0
def twice (m : List Nat) : List Nat := (List.range 16).map fun i => timesTo m (m.getD i 0) 16
theorem twiceTo_succ (m : List Nat) (k : Nat) (hk : k < 16) : twiceTo m (k + 1) = (twiceTo m k).set k (timesTo m (m.getD k 0) 16) := by
  apply List.ext_getElem
  · simp [twiceTo]
  · intro i h1 h2
    simp [twiceTo] at h1
    rw [List.getElem_set]
    simp only [twiceTo, List.getElem_map, List.getElem_range]
    by_cases e : k = i
    · subst e; rw [if_pos rfl, if_pos (by omega)]
    · rw [if_neg e]
      by_cases h3 : i < k
      · rw [if_pos h3, if_pos (by omega)]
      · rw [if_neg h3, if_neg (by omega)]
theorem twiceTo_all (m : List Nat) (k : Nat) (hk : 16 ≤ k) : twiceTo m k = twice m := by
  unfold twiceTo twice
  apply List.map_congr_left
  intro i hi
  rw [List.mem_range] at hi
  rw [if_pos (by omega)]
/-- The first k rows of the matrix of a byte 0. -/
def oneTo (k : Nat) : List Nat := (List.range 16).map fun i => if i < k then more (2 ^ i) [0] else 0
def one : List Nat := (List.range 16).map fun i => more (2 ^ i) [0]
theorem oneTo_succ (k : Nat) (hk : k < 16) : oneTo (k + 1) = (oneTo k).set k (more (2 ^ k) [0]) := by
  apply List.ext_getElem
  · simp [oneTo]
  · intro i h1 h2
    simp [oneTo] at h1
    rw [List.getElem_set]
    simp only [oneTo, List.getElem_map, List.getElem_range]
    by_cases e : k = i
    · subst e; rw [if_pos rfl, if_pos (by omega)]
    · rw [if_neg e]
      by_cases h3 : i < k
      · rw [if_pos h3, if_pos (by omega)]
      · rw [if_neg h3, if_neg (by omega)]
theorem oneTo_all (k : Nat) (hk : 16 ≤ k) : oneTo k = one := by
  unfold oneTo one
  apply List.map_congr_left
  intro i hi
  rw [List.mem_range] at hi
  rw [if_pos (by omega)]
/-- One byte, in the walk's own words. -/
theorem step_int (m c : Nat) (hm : m < 65536) (hc : c < 256) :
    bits .xor .u16 (IntKind.u16.wrap (bits .xor .u16 (IntKind.u16.wrap ((m : Int) * 16)) (qt (bits .xor .u16 ((m : Int) / 4096) (IntKind.u16.wrap (c : Int) / 16)).toNat : Nat) * 16))
      (qt (bits .xor .u16 (bits .xor .u16 (IntKind.u16.wrap ((m : Int) * 16)) (qt (bits .xor .u16 ((m : Int) / 4096) (IntKind.u16.wrap (c : Int) / 16)).toNat : Nat) / 4096) (IntKind.u16.wrap (c : Int))).toNat : Nat) = ((step m c : Nat) : Int) := by
  have e1 : IntKind.u16.wrap (c : Int) = (c : Int) := by rw [IntKind.wrap_u16]; omega
  have e2 : IntKind.u16.wrap ((m : Int) * 16) = ((m * 16 % 65536 : Nat) : Int) := by rw [IntKind.wrap_u16]; omega
  have e3 : (m : Int) / 4096 = ((m / 4096 : Nat) : Int) := by omega
  have e4 : (c : Int) / 16 = ((c / 16 : Nat) : Int) := by omega
  rw [e1, e2, e3, e4, xor_toNat _ _ (by omega) (by omega)]
  have hq := qt_lt (m / 4096 ^^^ c / 16)
  rw [u16_xor_nat _ _ (Nat.mod_lt _ (by decide)) hq]
  have hs1 : m * 16 % 65536 ^^^ qt (m / 4096 ^^^ c / 16) < 65536 := xor16_lt (Nat.mod_lt _ (by decide)) hq
  unfold step
  dsimp only
  generalize m * 16 % 65536 ^^^ qt (m / 4096 ^^^ c / 16) = s1 at *
  have e5 : IntKind.u16.wrap ((s1 : Int) * 16) = ((s1 * 16 % 65536 : Nat) : Int) := by rw [IntKind.wrap_u16]; omega
  have e6 : (s1 : Int) / 4096 = ((s1 / 4096 : Nat) : Int) := by omega
  rw [e5, e6, xor_toNat _ _ (by omega) (by omega), u16_xor_nat _ _ (Nat.mod_lt _ (by decide)) (qt_lt _)]
end Go.Proofs.Ytpkgpffodkfncaa.Crc
