/- Bit by bit: what the document's loop makes of two numbers (plain), and its walk. -/
import Derived.Test.YtclbmgnpgjhlhaaIecSpec
import Derived.Below
import Derived.BigQuiet
import Derived.Deep.QuietTactic
namespace Go.Proofs.Ytclbmgnpgjhlhaa
open Go.RowKit
/-- An operation on natural numbers, bit by bit. -/
def opN (op : Int) (x y : Nat) : Nat := if op = 8 then x ||| y else if op = 9 then x ^^^ y else x &&& y
def opB (op : Int) (x y : Bool) : Bool := if op = 8 then x || y else if op = 9 then x != y else x && y
theorem opN_bit (op : Int) (x y i : Nat) : (opN op x y).testBit i = opB op (x.testBit i) (y.testBit i) := by
  unfold opN opB
  split
  · rw [Nat.testBit_or]
  split
  · rw [Nat.testBit_xor]
  · rw [Nat.testBit_and]
theorem bit_mod (x i : Nat) : x / 2 ^ i % 2 = (x.testBit i).toNat := by
  rw [Nat.testBit_eq_decide_div_mod_eq]
  have : x / 2 ^ i % 2 < 2 := Nat.mod_lt _ (by decide)
  by_cases h : x / 2 ^ i % 2 = 1
  · simp [h]
  · have : x / 2 ^ i % 2 = 0 := by omega
    simp [this]
theorem mod_step (n i : Nat) : n % 2 ^ (i + 1) = n % 2 ^ i + (if n.testBit i then 2 ^ i else 0) := by
  rw [Nat.mod_pow_succ, bit_mod]
  cases n.testBit i <;> simp
theorem opN_lt (op : Int) (x y : Nat) (hx : x < 2 ^ 32) (hy : y < 2 ^ 32) : opN op x y < 2 ^ 32 := by
  unfold opN
  split
  · exact Nat.or_lt_two_pow hx hy
  split
  · exact Nat.xor_lt_two_pow hx hy
  · exact Nat.and_lt_two_pow _ hy
structure BitRel (op : Int) (x y : Nat) (a b out one c : Value) (i : Nat) : Prop where
  le : i ≤ 32
  ha : a = .int .i64 ((x / 2 ^ i : Nat) : Int)
  hb : b = .int .i64 ((y / 2 ^ i : Nat) : Int)
  ho : out = .int .i64 ((opN op x y % 2 ^ i : Nat) : Int)
  h1 : one = .int .i64 ((2 ^ i : Nat) : Int)
  hc : c = .int .i64 (i : Int)
def BitR (op : Int) (x y : Nat) (a b out one c : Value) : Prop := ∃ i, BitRel op x y a b out one c i
theorem BitR.next {op : Int} {x y i : Nat} (hi : i < 32) (z : Nat) (hz : z = opN op x y % 2 ^ i + (if opB op (x.testBit i) (y.testBit i) then 2 ^ i else 0)) :
    BitR op x y (.int .i64 ((x / 2 ^ i : Nat) / 2 : Int)) (.int .i64 ((y / 2 ^ i : Nat) / 2 : Int)) (.int .i64 (z : Int)) (.int .i64 (((2 ^ i : Nat) : Int) * 2)) (.int .i64 ((i : Int) + 1)) := by
  refine ⟨i + 1, ⟨by omega, ?_, ?_, ?_, ?_, rfl⟩⟩
  · congr 1
    rw [Nat.pow_succ, ← Nat.div_div_eq_div_mul]
    rfl
  · congr 1
    rw [Nat.pow_succ, ← Nat.div_div_eq_div_mul]
    rfl
  · rw [hz, mod_step, opN_bit]
  · congr 1
set_option maxRecDepth 100000 in
set_option maxHeartbeats 4000000 in
theorem rbits_any (op : Int) (x y : Nat) (hx : x < 2 ^ 32) (hy : y < 2 ^ 32) (w : World) :
    Calls Try.prog 50 #[.int .i64 op, .int .i64 (x : Int), .int .i64 (y : Int)] w fun e w' => e = .returned (.int .i64 (opN op x y : Int)) ∧ w = w' := by
  have hop := opN_lt op x y hx hy
  have HX := Lib.hid (And.intro hx hy)
  go_enter Try.func50, Try.ntmps50
  go_wp2
  go_loop [1, 2, 7, 8, 9] (fun a b out one c => BitR op x y a b out one c) (fun _ _ _ _ c => 32 - (intOf c).toNat)
  case atStart => exact ⟨0, ⟨by decide, by simp, by simp, by simp [Nat.mod_one], rfl, rfl⟩⟩
  case round =>
    obtain ⟨i, hle, rfl, rfl, rfl, rfl, rfl⟩ := hrel
    by_cases hi : i < 32
    · have bx := bit_mod x i
      have by_ := bit_mod y i
      have hnext := fun z hz => BitR.next (op := op) (x := x) (y := y) hi z hz
      have p1 : 2 ^ i ≤ 2 ^ 31 := Nat.pow_le_pow_right (by decide) (by omega)
      have p2 : x / 2 ^ i ≤ x := Nat.div_le_self _ _
      have p3 : y / 2 ^ i ≤ y := Nat.div_le_self _ _
      have p4 : opN op x y % 2 ^ i ≤ opN op x y := Nat.mod_le _ _
      generalize 2 ^ i = p at *
      generalize x / p = u at *
      generalize y / p = v at *
      generalize opN op x y % p = z at *
      have k1 : u < 4294967296 := by omega
      have k2 : v < 4294967296 := by omega
      have k3 : z < 4294967296 := by omega
      have k4 : p ≤ 2147483648 := by omega
      have HN := Lib.hid hnext
      clear hnext hop hx hy p1 p2 p3 p4
      rcases (by omega : op = 8 ∨ op = 9 ∨ (op ≠ 8 ∧ op ≠ 9)) with rfl | rfl | ⟨o1, o2⟩
      · cases hbx : x.testBit i with
        | false => cases hby : y.testBit i with
          | false => 
            rw [hbx] at bx
            rw [hby] at by_
            simp at bx by_
            have bxi : (u : Int) % 2 = 0 := by omega
            have byi : (v : Int) % 2 = 0 := by omega
            have HB := Lib.hid (And.intro hbx hby)
            have HM := Lib.hid (HN.out z (by simp [hbx, hby, opB]))
            clear bx by_ hbx hby
            go_wp2
            go_round
            case rel => exact HM.out
            case measure => simp [intOf]; omega
          | true => 
            rw [hbx] at bx
            rw [hby] at by_
            simp at bx by_
            have bxi : (u : Int) % 2 = 0 := by omega
            have byi : (v : Int) % 2 = 1 := by omega
            have HB := Lib.hid (And.intro hbx hby)
            have HM := Lib.hid (HN.out (z + p) (by simp [hbx, hby, opB]))
            clear bx by_ hbx hby
            go_wp2
            go_round
            case rel => exact (by simpa using HM.out)
            case measure => simp [intOf]; omega
        | true => cases hby : y.testBit i with
          | false => 
            rw [hbx] at bx
            rw [hby] at by_
            simp at bx by_
            have bxi : (u : Int) % 2 = 1 := by omega
            have byi : (v : Int) % 2 = 0 := by omega
            have HB := Lib.hid (And.intro hbx hby)
            have HM := Lib.hid (HN.out (z + p) (by simp [hbx, hby, opB]))
            clear bx by_ hbx hby
            go_wp2
            go_round
            case rel => exact (by simpa using HM.out)
            case measure => simp [intOf]; omega
          | true => 
            rw [hbx] at bx
            rw [hby] at by_
            simp at bx by_
            have bxi : (u : Int) % 2 = 1 := by omega
            have byi : (v : Int) % 2 = 1 := by omega
            have HB := Lib.hid (And.intro hbx hby)
            have HM := Lib.hid (HN.out (z + p) (by simp [hbx, hby, opB]))
            clear bx by_ hbx hby
            go_wp2
            go_round
            case rel => exact (by simpa using HM.out)
            case measure => simp [intOf]; omega
      · cases hbx : x.testBit i with
        | false => cases hby : y.testBit i with
          | false => 
            rw [hbx] at bx
            rw [hby] at by_
            simp at bx by_
            have bxi : (u : Int) % 2 = 0 := by omega
            have byi : (v : Int) % 2 = 0 := by omega
            have HB := Lib.hid (And.intro hbx hby)
            have HM := Lib.hid (HN.out z (by simp [hbx, hby, opB]))
            clear bx by_ hbx hby
            go_wp2
            go_round
            case rel => exact HM.out
            case measure => simp [intOf]; omega
          | true => 
            rw [hbx] at bx
            rw [hby] at by_
            simp at bx by_
            have bxi : (u : Int) % 2 = 0 := by omega
            have byi : (v : Int) % 2 = 1 := by omega
            have HB := Lib.hid (And.intro hbx hby)
            have HM := Lib.hid (HN.out (z + p) (by simp [hbx, hby, opB]))
            clear bx by_ hbx hby
            go_wp2
            go_round
            case rel => exact (by simpa using HM.out)
            case measure => simp [intOf]; omega
        | true => cases hby : y.testBit i with
          | false => 
            rw [hbx] at bx
            rw [hby] at by_
            simp at bx by_
            have bxi : (u : Int) % 2 = 1 := by omega
            have byi : (v : Int) % 2 = 0 := by omega
            have HB := Lib.hid (And.intro hbx hby)
            have HM := Lib.hid (HN.out (z + p) (by simp [hbx, hby, opB]))
            clear bx by_ hbx hby
            go_wp2
            go_round
            case rel => exact (by simpa using HM.out)
            case measure => simp [intOf]; omega
          | true => 
            rw [hbx] at bx
            rw [hby] at by_
            simp at bx by_
            have bxi : (u : Int) % 2 = 1 := by omega
            have byi : (v : Int) % 2 = 1 := by omega
            have HB := Lib.hid (And.intro hbx hby)
            have HM := Lib.hid (HN.out z (by simp [hbx, hby, opB]))
            clear bx by_ hbx hby
            go_wp2
            go_round
            case rel => exact HM.out
            case measure => simp [intOf]; omega
      · have o3 : (op == 8) = false := by rw [beq_eq_false_iff_ne]; exact o1
        have o4 : (op == 9) = false := by rw [beq_eq_false_iff_ne]; exact o2
        have ob : ∀ x y, opB op x y = (x && y) := fun x y => by rw [opB, if_neg o1, if_neg o2]
        have OB := Lib.hid ob
        clear o1 o2 ob
        cases hbx : x.testBit i with
        | false => cases hby : y.testBit i with
          | false => 
            rw [hbx] at bx
            rw [hby] at by_
            simp at bx by_
            have bxi : (u : Int) % 2 = 0 := by omega
            have byi : (v : Int) % 2 = 0 := by omega
            have HB := Lib.hid (And.intro hbx hby)
            have HM := Lib.hid (HN.out z (by rw [OB.out, hbx, hby]; simp))
            clear bx by_ hbx hby
            go_wp2
            go_round
            case rel => exact HM.out
            case measure => simp [intOf]; omega
          | true => 
            rw [hbx] at bx
            rw [hby] at by_
            simp at bx by_
            have bxi : (u : Int) % 2 = 0 := by omega
            have byi : (v : Int) % 2 = 1 := by omega
            have HB := Lib.hid (And.intro hbx hby)
            have HM := Lib.hid (HN.out z (by rw [OB.out, hbx, hby]; simp))
            clear bx by_ hbx hby
            go_wp2
            go_round
            case rel => exact HM.out
            case measure => simp [intOf]; omega
        | true => cases hby : y.testBit i with
          | false => 
            rw [hbx] at bx
            rw [hby] at by_
            simp at bx by_
            have bxi : (u : Int) % 2 = 1 := by omega
            have byi : (v : Int) % 2 = 0 := by omega
            have HB := Lib.hid (And.intro hbx hby)
            have HM := Lib.hid (HN.out z (by rw [OB.out, hbx, hby]; simp))
            clear bx by_ hbx hby
            go_wp2
            go_round
            case rel => exact HM.out
            case measure => simp [intOf]; omega
          | true => 
            rw [hbx] at bx
            rw [hby] at by_
            simp at bx by_
            have bxi : (u : Int) % 2 = 1 := by omega
            have byi : (v : Int) % 2 = 1 := by omega
            have HB := Lib.hid (And.intro hbx hby)
            have HM := Lib.hid (HN.out (z + p) (by rw [OB.out, hbx, hby]; simp))
            clear bx by_ hbx hby
            go_wp2
            go_round
            case rel => exact (by simpa using HM.out)
            case measure => simp [intOf]; omega
    · obtain rfl : i = 32 := by omega
      have hm : opN op x y % 2 ^ 32 = opN op x y := Nat.mod_eq_of_lt hop
      rw [hm]
      clear hm
      go_wp2
      go_ret
      exact ⟨rfl, rfl⟩
end Go.Proofs.Ytclbmgnpgjhlhaa
