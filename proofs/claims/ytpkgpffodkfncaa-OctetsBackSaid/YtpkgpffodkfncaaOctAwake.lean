/- The laws' first line, and the things that came in. -/
import Derived.Test.YtpkgpffodkfncaaOctLaw
import Derived.Test.YtpkgpffodkfncaaOctEye2
import Derived.Test.YtpkgpffodkfncaaOpen
import Derived.OpenShut
namespace Go.Proofs.Ytpkgpffodkfncaa
open Go.RowKit
def aw0 : ByteArray := ⟨#[2, 97, 98, 1, 2]⟩
theorem oct_small0 : Oct.small aw0 0 false = (⟨#[97, 98]⟩, 3, false) := by decide +kernel
theorem oct_two0 : Oct.take aw0 3 false 2 = (⟨#[1, 2]⟩, 5, false) := by decide +kernel
theorem oct_num0 : Oct.num [1, 2] = 258 := by decide +kernel
theorem oct_bts0 : [2, 97, 98] ++ Oct.bts 258 2 = [2, 97, 98, 1, 2] := by decide +kernel
theorem oct_ab : (⟨#[97, 98]⟩ : ByteArray).size ≤ 255 := by decide +kernel
set_option maxRecDepth 100000 in
theorem oawake_any (w : World) :
    Calls Try.prog 26 #[] w fun e w' => e = .returned (.bool true) ∧ Below w.heap.size w w' := by
  have H1 := Lib.hid oct_small0
  have H2 := Lib.hid oct_two0
  have H3 := Lib.hid oct_num0
  have H4 := Lib.hid oct_bts0
  go_enter Try.func26, Try.ntmps26
  go_wp2_with fail
  refine (newPen_any w).mono ?_
  rintro e w1 ⟨rfl, hP1, hb1⟩
  go_wp2_with fail
  refine (penSmall_any w.heap.size [] ⟨#[97, 98]⟩ (by decide +kernel) w1 hP1).mono ?_
  rintro e w2 ⟨rfl, hP2, hK2⟩
  rw [if_pos oct_ab] at hP2
  have hP2' : PenAt w2 w.heap.size [2, 97, 98] := hP2
  clear hP2 hP1
  go_wp2_with fail
  refine (penTwo_any w.heap.size [2, 97, 98] 258 (by omega) (by decide) w2 hP2').mono ?_
  rintro e w3 ⟨rfl, hP3, hK3⟩
  rw [H4.out] at hP3
  go_wp2_with fail
  refine (penString_any w.heap.size [2, 97, 98, 1, 2] w3 hP3).mono ?_
  rintro e w' ⟨rfl, rfl⟩
  go_wp2_with fail
  refine (newEye_any aw0 w3).mono ?_
  rintro e w4 ⟨rfl, rfl⟩
  have hE0 : EyeAt (w3.alloc (.cells #[.string aw0, .int .i64 0, .bool false] 85)) w3.heap.size aw0 0 false := ObjAt.new _ _ _
  go_wp2_with fail
  refine (eyeSmall_any w3.heap.size aw0 0 false (by decide +kernel) (by decide +kernel) _ hE0).mono ?_
  rintro e w5 ⟨rfl, hE5, hK5⟩
  rw [H1.out] at hE5 ⊢
  go_wp2_with fail
  refine (eyeTwo_any w3.heap.size aw0 3 false (by decide +kernel) (by decide +kernel) _ hE5).mono ?_
  rintro e w6 ⟨rfl, hE6, hK6⟩
  rw [H2.out] at hE6 ⊢
  have hn : (Oct.num [1, 2] : Int) % 65536 = 258 := by rw [H3.out]; rfl
  go_wp2_with fail
  refine (eyeDone_any w3.heap.size aw0 5 false (by decide +kernel) (by decide +kernel) _ hE6).mono ?_
  rintro e w' ⟨rfl, n6, rfl⟩
  go_wp2
  go_ret
  have hb3 : Below w.heap.size w w3 := hb1.trans (hK2.below.trans hK3.below)
  exact ⟨rfl, (hb3.alloc hb3.size _).trans (((hK5.trans hK6).drewN n6).below (by simp; exact Nat.le_succ_of_le hb3.size) (fun k hk he => by have := hb3.size; omega))⟩
theorem items_of {H : Type} {enc : TypeId × Value → H} {W : World} {v : Value} {d : DataW H} {p : List MemPlace}
    (h : DataW.Trod enc Try.prog W 0 (fun _ => true) true 37 v d p) (o : Value.okWide Try.prog W .any 0 37 v) :
    ∃ xs, ItemsAt W v xs ∧ ∀ x ∈ xs, x.ok := by
  obtain ⟨a, len, cap, rfl⟩ := Go.WideShapes.okWide_slice Try.underlying37 o
  obtain ⟨m, hm⟩ := h
  rcases open_slice_fields Try.underlying37 Try.underlying45 (by kernel_rfl) (by kernel_rfl) (by decide) hm with h0 | ⟨a', len', cap', n, V, Y, h0, hl, hc, hx⟩
  · have e : a = none ∧ len = 0 ∧ cap = 0 := by simpa [Value.cells] using h0
    obtain ⟨rfl, rfl, rfl⟩ := e
    exact ⟨[], ⟨none, 0, 0, 0, rfl, by simp [maxLen], fun h => absurd rfl h, fun i hi => by simp at hi⟩, by simp⟩
  · have e : a = some a' ∧ len = len' ∧ cap = cap' := by simpa [Value.cells] using h0
    obtain ⟨rfl, rfl, rfl⟩ := e
    let f : Nat → Item := fun i => ⟨match V i 0 with | .int _ z => z.toNat | _ => 0, match V i 1 with | .int _ z => z.toNat | _ => 0, match V i 2 with | .string s => s | _ => ⟨#[]⟩⟩
    have hf : ∀ i, i < len → V i 0 = .int .u8 ((f i).what : Int) ∧ V i 1 = .int .u32 ((f i).n : Int) ∧ V i 2 = .string (f i).s ∧ (f i).ok := by
      intro i hi
      obtain ⟨-, -, hj⟩ := hx i hi
      obtain ⟨-, t0⟩ := hj 0 _ rfl
      obtain ⟨-, t1⟩ := hj 1 _ rfl
      obtain ⟨-, t2⟩ := hj 2 _ rfl
      obtain ⟨z0, e0, -, w0⟩ := DataW.trod_int Try.underlying5 t0
      obtain ⟨z1, e1, -, w1⟩ := DataW.trod_int Try.underlying43 t1
      obtain ⟨s2, e2, -, w2⟩ := DataW.trod_string Try.underlying9 t2
      have e0' : V i 0 = .int .u8 z0 := by simpa using e0
      have e1' : V i 1 = .int .u32 z1 := by simpa using e1
      have e2' : V i 2 = .string s2 := by simpa using e2
      have b0 := bounds_u8 w0
      have b1 := bounds_u32 w1
      have f0 : (f i).what = z0.toNat := by show (match V i 0 with | .int _ z => z.toNat | _ => 0) = _; rw [e0']
      have f1 : (f i).n = z1.toNat := by show (match V i 1 with | .int _ z => z.toNat | _ => 0) = _; rw [e1']
      have f2 : (f i).s = s2 := by show (match V i 2 with | .string s => s | _ => ⟨#[]⟩) = _; rw [e2']
      refine ⟨by rw [e0', f0, Int.toNat_of_nonneg b0.1], by rw [e1', f1, Int.toNat_of_nonneg b1.1], by rw [e2', f2], ?_⟩
      unfold Item.ok
      rw [f0, f1]
      omega
    have hlen : ((List.range len).map f).length = len := by simp
    refine ⟨(List.range len).map f, ⟨some a', cap, a'.block, a'.off, by rw [hlen], by rw [hlen]; unfold maxLen at *; omega, fun hne => ?_, fun i hi => ?_⟩, fun x hxm => ?_⟩
    · have hpos : 0 < len := by
        rcases Nat.eq_zero_or_pos len with h | h
        · subst h; exact absurd rfl hne
        · exact h
      obtain ⟨h1, h2, -⟩ := hx 0 hpos
      exact ⟨by rw [← h1], h2⟩
    · have hi' : i < len := by simpa using hi
      obtain ⟨-, -, hj⟩ := hx i hi'
      obtain ⟨g0, g1, g2, -⟩ := hf i hi'
      obtain ⟨c0, -⟩ := hj 0 _ rfl
      obtain ⟨c1, -⟩ := hj 1 _ rfl
      obtain ⟨c2, -⟩ := hj 2 _ rfl
      simp only [List.getElem_map, List.getElem_range]
      exact ⟨c0.trans (by rw [g0]), c1.trans (by rw [g1]), c2.trans (by rw [g2])⟩
    · obtain ⟨i, hi, rfl⟩ := List.mem_map.1 hxm
      exact (hf i (List.mem_range.1 hi)).2.2.2
end Go.Proofs.Ytpkgpffodkfncaa
