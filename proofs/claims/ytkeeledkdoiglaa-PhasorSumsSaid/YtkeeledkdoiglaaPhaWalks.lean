/- The phasors' small functions, walked. -/
import Derived.Test.YtkeeledkdoiglaaBase
import Derived.Test.YtkeeledkdoiglaaPhaSpec
import Derived.WalkLawsBesides
import Derived.Below
namespace Go.Proofs.Ytkeeledkdoiglaa
open Go.RowKit
def RetC (z : Int × Int) (w : World) (e : Ending) (w' : World) : Prop := ∃ r i, e = .returned (.complex .f64 r i) ∧ Fl r z.1 ∧ Fl i z.2 ∧ w = w'
theorem small_any (x m : Int) (hm : 0 ≤ m ∧ m ≤ 1073741824) (w : World) :
    Calls Try.prog 44 #[.int .i64 x, .int .i64 m] w fun e w' => e = .returned (.int .i64 (min (max x (-m)) m)) ∧ w = w' := by
  go_enter Try.func44, Try.ntmps44
  go_wp2
  all_goals
    go_ret
    exact ⟨ret_int (by omega), rfl⟩
theorem of_any (a b : Int) (w : World) :
    Calls Try.prog 11 #[.int .i64 a, .int .i64 b] w (RetC (smallZ a, smallZ b) w) := by
  go_enter Try.func11, Try.ntmps11
  go_wp2_with (go_at_call 44; refine (small_any _ 1048576 (by decide) _).mono ?_; rintro e w' ⟨rfl, rfl⟩)
  go_ret
  have ha := smallZ_bd a
  have hb := smallZ_bd b
  exact ⟨_, _, rfl, fl_of _ ⟨by omega, by omega⟩, fl_of _ ⟨by omega, by omega⟩, rfl⟩
theorem isNaN_fl {b : Nat} {n : Int} (h : Fl b n) (w : World) :
    Calls Try.prog 52 #[.float .f64 b] w fun e w' => e = .returned (.bool false) ∧ w = w' := by
  have ho := fl_order h h
  go_enter Try.func52, Try.ntmps52
  go_wp2
  go_ret
  simp
theorem fl_part : Fl 4742290407621132288 1073741824 := by
  refine ⟨false, 4503599627370496, 22, by decide, by decide⟩
theorem fl_partn : Fl 13965662444475908096 (-1073741824) := by
  refine ⟨true, 4503599627370496, 22, by decide, by decide⟩
theorem whole_fl {b : Nat} {n : Int} (h : Fl b n) (hn : -1073741824 < n ∧ n < 1073741824) (w : World) :
    Calls Try.prog 51 #[.float .f64 b] w fun e w' => e = .returned (.int .i64 n) ∧ w = w' := by
  have h1 : FloatKind.f64.format.order b 4742290407621132288 = some .lt := by rw [fl_order h fl_part, Int.compare_eq_lt.2 hn.2]
  have h2 : FloatKind.f64.format.order b 13965662444475908096 = some .gt := by rw [fl_order h fl_partn, Int.compare_eq_gt.2 hn.1]
  have hi := fl_int h ⟨by omega, by omega⟩
  have hc := fun w => run_convert_float_int (P := Try.prog) w 76 3 .f64 .i64 b n (by kernel_rfl) (by kernel_rfl) hi
  go_enter Try.func51, Try.ntmps51
  go_wp2_with (go_at_call 52; refine (isNaN_fl h _).mono ?_; rintro e w' ⟨rfl, rfl⟩)
  go_ret
  simp
theorem parts_fl {r i : Nat} {a b : Int} (hr : Fl r a) (hi : Fl i b) (ha : -1073741824 < a ∧ a < 1073741824) (hb : -1073741824 < b ∧ b < 1073741824) (w : World) :
    Calls Try.prog 43 #[.complex .f64 r i] w fun e w' => e = .returned (.tuple #[.int .i64 a, .int .i64 b]) ∧ w = w' := by
  go_enter Try.func43, Try.ntmps43
  go_wp2_with fail
  refine (whole_fl hr ha _).mono ?_
  rintro e w' ⟨rfl, rfl⟩
  go_wp2_with fail
  refine (whole_fl hi hb _).mono ?_
  rintro e w' ⟨rfl, rfl⟩
  go_wp2
  go_ret2
  exact ⟨rfl, rfl⟩
theorem power_fl {r i : Nat} {z : Int × Int} (hr : Fl r z.1) (hi : Fl i z.2) (hb : BdZ 1073741823 z) (w : World) :
    Calls Try.prog 15 #[.complex .f64 r i] w fun e w' => e = .returned (.int .i64 (powZ z)) ∧ w = w' := by
  obtain ⟨a, b⟩ := z
  obtain ⟨⟨h1, h2⟩, h3, h4⟩ := hb
  simp only at hr hi h1 h2 h3 h4
  have q1 := sq_bd (B := 1073741823) (by decide) ⟨h1, h2⟩
  have q2 := sq_bd (B := 1073741823) (by decide) ⟨h3, h4⟩
  go_enter Try.func15, Try.ntmps15
  go_wp2_with fail
  refine (parts_fl hr hi ⟨by omega, by omega⟩ ⟨by omega, by omega⟩ _).mono ?_
  rintro e w' ⟨rfl, rfl⟩
  go_wp2
  go_ret
  exact ⟨ret_int rfl, rfl⟩
theorem fl_0 : Fl 0 0 := by
  refine ⟨false, 0, 1074, by decide, ?_⟩
  generalize ((2 ^ 1074 : Nat) : Int) = z
  simp
theorem fl_1 : Fl 4607182418800017408 1 := ⟨false, 4503599627370496, 52, by decide, by decide⟩
theorem fl_n1 : Fl 13830554455654793216 (-1) := ⟨true, 4503599627370496, 52, by decide, by decide⟩
theorem and3 (n : Int) : bits .and .i64 n 3 = n % 4 := by
  have h1 : (BitVec.ofInt 64 n &&& BitVec.ofInt 64 3).toNat = (n % 4).toNat := by
    have e3 : (BitVec.ofInt 64 3).toNat = 2 ^ 2 - 1 := by decide
    rw [BitVec.toNat_and, e3, Nat.and_two_pow_sub_one_eq_mod, BitVec.toNat_ofInt]
    omega
  show IntKind.i64.wrap ((BitVec.ofInt 64 n &&& BitVec.ofInt 64 3).toNat : Int) = _
  rw [h1, IntWalk.i64_in _ (by omega)]
  omega
set_option maxHeartbeats 400000 in
set_option maxRecDepth 100000 in
theorem quarter_any (n : Int) (w : World) :
    Calls Try.prog 45 #[.int .i64 n] w (RetC (turnZ (1, 0) n) w) := by
  have i0 : ∀ w, (Instr.index 39 (.agg #[.complex .f64 4607182418800017408 0, .complex .f64 0 4607182418800017408, .complex .f64 13830554455654793216 0, .complex .f64 0 13830554455654793216]) (.int .i64 0)).run Try.prog w = .ok (.complex .f64 4607182418800017408 0) w := fun _ => by kernel_rfl
  have i1 : ∀ w, (Instr.index 39 (.agg #[.complex .f64 4607182418800017408 0, .complex .f64 0 4607182418800017408, .complex .f64 13830554455654793216 0, .complex .f64 0 13830554455654793216]) (.int .i64 1)).run Try.prog w = .ok (.complex .f64 0 4607182418800017408) w := fun _ => by kernel_rfl
  have i2 : ∀ w, (Instr.index 39 (.agg #[.complex .f64 4607182418800017408 0, .complex .f64 0 4607182418800017408, .complex .f64 13830554455654793216 0, .complex .f64 0 13830554455654793216]) (.int .i64 2)).run Try.prog w = .ok (.complex .f64 13830554455654793216 0) w := fun _ => by kernel_rfl
  have i3 : ∀ w, (Instr.index 39 (.agg #[.complex .f64 4607182418800017408 0, .complex .f64 0 4607182418800017408, .complex .f64 13830554455654793216 0, .complex .f64 0 13830554455654793216]) (.int .i64 3)).run Try.prog w = .ok (.complex .f64 0 13830554455654793216) w := fun _ => by kernel_rfl
  have h3 := and3 n
  rcases (by omega : n % 4 = 0 ∨ n % 4 = 1 ∨ n % 4 = 2 ∨ n % 4 = 3) with h | h | h | h
  all_goals
    rw [h] at h3
    have ht : turnZ (1, 0) n = if n % 4 = 0 then (1, 0) else if n % 4 = 1 then (-0, 1) else if n % 4 = 2 then (-1, -0) else (0, -1) := rfl
    simp only [h] at ht
    have HT := Lib.hid ht
    clear h ht
    go_enter Try.func45, Try.ntmps45
    go_wp2
    go_ret
    rw [HT.out]
    simp
    first
      | exact ⟨_, _, rfl, fl_1, fl_0, rfl⟩
      | exact ⟨_, _, rfl, fl_0, fl_1, rfl⟩
      | exact ⟨_, _, rfl, fl_n1, fl_0, rfl⟩
      | exact ⟨_, _, rfl, fl_0, fl_n1, rfl⟩
theorem mul_fl {a b c d : Nat} {x y u v : Int} (ha : Fl a x) (hb : Fl b y) (hc : Fl c u) (hd : Fl d v) (h1 : Small53 (x * u)) (h2 : Small53 (y * v)) (h3 : Small53 (x * u - y * v)) (h4 : Small53 (x * v)) (h5 : Small53 (y * u)) (h6 : Small53 (x * v + y * u)) :
    ∃ r i, cMulBits a b c d = some (r, i) ∧ Fl r (x * u - y * v) ∧ Fl i (x * v + y * u) := by
  obtain ⟨ac, e1, f1⟩ := fl_mul ha hc h1
  obtain ⟨bd, e2, f2⟩ := fl_mul hb hd h2
  obtain ⟨re, e3, f3⟩ := fl_sub f1 f2 h3
  obtain ⟨ad, e4, f4⟩ := fl_mul ha hd h4
  obtain ⟨bc, e5, f5⟩ := fl_mul hb hc h5
  obtain ⟨im, e6, f6⟩ := fl_add f4 f5 h6
  exact ⟨re, im, by simp [cMulBits, e1, e2, e3, e4, e5, e6], f3, f6⟩
theorem unit_bd (n : Int) : BdZ 1 (turnZ (1, 0) n) := turnZ_bd n ⟨by simp, by simp⟩
theorem turn_fl {r i : Nat} {z : Int × Int} (n : Int) (hr : Fl r z.1) (hi : Fl i z.2) (hb : BdZ 1099511627776 z) (w : World) :
    Calls Try.prog 14 #[.complex .f64 r i, .int .i64 n] w (RetC (turnZ z n) w) := by
  have hm : ∀ {c d : Nat}, Fl c (turnZ (1, 0) n).1 → Fl d (turnZ (1, 0) n).2 → ∃ p q, cMulBits r i c d = some (p, q) ∧ Fl p (turnZ z n).1 ∧ Fl q (turnZ z n).2 := fun hc hd => by
    have hz := turnZ_bd n hb
    have e := turnZ_mul z n
    have hu := unit_bd n
    have hx : ∀ a t : Int, (-1099511627776 ≤ a ∧ a ≤ 1099511627776) → (-1 ≤ t ∧ t ≤ 1) → Small53 (a * t) := fun a t ha ht => by
      rcases (by omega : t = -1 ∨ t = 0 ∨ t = 1) with rfl | rfl | rfl <;> simp [Small53] <;> omega
    have h3 : Small53 (turnZ z n).1 := by unfold Small53; have := hz.1; omega
    have h6 : Small53 (turnZ z n).2 := by unfold Small53; have := hz.2; omega
    have e1 := congrArg Prod.fst e
    have e2 := congrArg Prod.snd e
    simp only at e1 e2
    rw [e1] at h3
    rw [e2] at h6
    obtain ⟨p, q, g1, g2, g3⟩ := mul_fl hr hi hc hd (hx _ _ hb.1 hu.1) (hx _ _ hb.2 hu.2) h3 (hx _ _ hb.1 hu.2) (hx _ _ hb.2 hu.1) h6
    exact ⟨p, q, g1, by rw [e1]; exact g2, by rw [e2]; exact g3⟩
  go_enter Try.func14, Try.ntmps14
  go_wp2_with fail
  refine (quarter_any n _).mono ?_
  rintro e w' ⟨c, d, rfl, hc, hd, rfl⟩
  obtain ⟨p, q, g1, g2, g3⟩ := hm hc hd
  have HG := Lib.hid (And.intro g2 g3)
  have hrun := run_complex_mul (P := Try.prog) w 26 r i c d p q g1
  clear hm g1 g2 g3
  go_wp2
  go_ret
  exact ⟨_, _, rfl, HG.out.1, HG.out.2, rfl⟩
end Go.Proofs.Ytkeeledkdoiglaa
