/- The law IecRings: arithmetic goes round. -/
import Derived.Test.YtclbmgnpgjhlhaaIecAwake
import Derived.Test.YtclbmgnpgjhlhaaIecRingDo
import Derived.Test.YtclbmgnpgjhlhaaHeld
import Derived.Test.YtclbmgnpgjhlhaaArr
namespace Go.Proofs.Ytclbmgnpgjhlhaa
open Go.RowKit
theorem rhold_in {W w1 w2 : World} {A : World → Prop} (F : ∀ w', Below W.heap.size W w' → A w') (h : Below W.heap.size W w1 ∧ A w1) (hb : Below w1.heap.size w1 w2) : Below W.heap.size W w2 ∧ A w2 :=
  have hB := h.1.trans (hb.mono h.1.size)
  ⟨hB, F _ hB⟩
theorem rhold_first {W : World} {A : World → Prop} (F : ∀ w', Below W.heap.size W w' → A w') : Below W.heap.size W W.drew ∧ A W.drew := ⟨(Below.refl _ _).drew, F _ (Below.refl _ _).drew⟩
set_option maxRecDepth 100000 in
set_option maxHeartbeats 4000000 in
theorem rings_case (q k : Nat) (hq : q < 256) (x y z : Int) (hK : RK k) (r : Nat) (hr : (q : Int) % 4 = (r : Int)) (hrK : (r = 0 ∧ k = 2) ∨ (r = 1 ∧ k = 3) ∨ (r = 2 ∧ k = 4) ∨ (r = 3 ∧ k = 5)) (w : World) :
    Calls Try.prog 6 #[.int .u8 (q : Int), .agg #[.int .i64 x, .int .i64 y, .int .i64 z]] w fun e w' => e = .returned (.bool true) ∧ Below w.heap.size w w' := by
  have hkn := rk_kn hK
  obtain ⟨a, hA⟩ : ∃ a, wrapK k x = a := ⟨_, rfl⟩
  obtain ⟨b, hB⟩ : ∃ b, wrapK k y = b := ⟨_, rfl⟩
  obtain ⟨c, hC⟩ : ∃ c, wrapK k z = c := ⟨_, rfl⟩
  have ha : isK k a = true := by rw [← hA]; exact rk_wrap hK x
  have hb : isK k b = true := by rw [← hB]; exact rk_wrap hK y
  have hc : isK k c = true := by rw [← hC]; exact rk_wrap hK z
  have HI := Lib.hid (And.intro ha (And.intro hb hc))
  have HR := Lib.hid (rings_a hK ha hb hc)
  have HA := Lib.hid (And.intro hkn (And.intro hA (And.intro hB hC)))
  have HK := Lib.hid hK
  clear hA hB hC hkn ha hb hc
  have hcell : ((#[.int .i64 2, .int .i64 3, .int .i64 4, .int .i64 5] : Array Value)[r]?) = some (.int .i64 (k : Int)) := by
    rcases hrK with ⟨rfl, rfl⟩ | ⟨rfl, rfl⟩ | ⟨rfl, rfl⟩ | ⟨rfl, rfl⟩ <;> rfl
  have hr4 : r < 4 := by omega
  have HC := Lib.hid (And.intro hcell (And.intro hr hr4))
  have hX := ObjAt.new w #[.int .i64 x, .int .i64 y, .int .i64 z] 45
  have hbx := (Below.refl w.heap.size w).alloc (Nat.le_refl _) (.cells #[.int .i64 x, .int .i64 y, .int .i64 z] 45)
  have HX := Lib.hid (And.intro hX hbx)
  clear hX hbx hcell hr hr4 hrK hK
  go_enter Try.func6, Try.ntmps6
  go_wp2_with fail
  refine (iawake_any _).mono ?_
  rintro e w1 ⟨rfl, hb1⟩
  have H1 := Lib.hid (And.intro (below_obj hb1 HX.out.1) (HX.out.2.trans (hb1.mono HX.out.2.size)))
  clear hb1
  have c0 : (w1.alloc (.cells #[.int .i64 2, .int .i64 3, .int .i64 4, .int .i64 5] 3)).cell? ⟨w1.heap.size, r, none⟩ = some (.int .i64 (k : Int)) := by
    have h0 := heap_alloc_new w1 (.cells #[.int .i64 2, .int .i64 3, .int .i64 4, .int .i64 5] 3)
    unfold World.cell?
    dsimp only
    rw [h0]
    exact HC.out.1
  have hr := HC.out.2.1
  have hr3 := HC.out.2.2
  have hri : (r : Int) < 4 := by omega
  go_wp2_with fail
  have hBW : Below w.heap.size w ((w1.alloc (.cells #[.int .i64 2, .int .i64 3, .int .i64 4, .int .i64 5] 3)).alloc (.cells #[.int .i64 (k : Int)] 3)) := (H1.out.2.alloc H1.out.2.size _).alloc (by have := H1.out.2.size; simp; omega) _
  have hO := ObjAt.new (w1.alloc (.cells #[.int .i64 2, .int .i64 3, .int .i64 4, .int .i64 5] 3)) #[.int .i64 (k : Int)] 3
  have hX2 := (H1.out.1.alloc (.cells #[.int .i64 2, .int .i64 3, .int .i64 4, .int .i64 5] 3)).alloc (.cells #[.int .i64 (k : Int)] 3)
  have hz : (w1.alloc (.cells #[.int .i64 2, .int .i64 3, .int .i64 4, .int .i64 5] 3)).heap.size = w1.heap.size + 1 := by simp
  rw [hz] at hO
  generalize (w1.alloc (.cells #[.int .i64 2, .int .i64 3, .int .i64 4, .int .i64 5] 3)).alloc (.cells #[.int .i64 (k : Int)] 3) = W at *
  generalize w1.heap.size + 1 = g at *
  have HF := Lib.hid (fun (w' : World) (hb : Below W.heap.size W w') => (show w'.cell? ⟨g, 0, none⟩ = some (.int .i64 (k : Int)) ∧ w'.cell? ⟨w.heap.size, 0, none⟩ = some (.int .i64 x) ∧ w'.cell? ⟨w.heap.size, 1, none⟩ = some (.int .i64 y) ∧ w'.cell? ⟨w.heap.size, 2, none⟩ = some (.int .i64 z) from
    ⟨(below_obj hb hO).cell 0, (below_obj hb hX2).cell 0, (below_obj hb hX2).cell 1, (below_obj hb hX2).cell 2⟩))
  have HO := Lib.hid hO
  have HW := Lib.hid (And.intro hBW True.intro)
  have cW : W.cell? ⟨g, 0, none⟩ = some (.int .i64 (k : Int)) := hO.cell 0
  clear hz hO hX2 hBW c0 hr hr3 hri
  go_region_held3 (fun w' => Below W.heap.size W w' ∧ w'.cell? ⟨g, 0, none⟩ = some (.int .i64 (k : Int)) ∧ w'.cell? ⟨w.heap.size, 0, none⟩ = some (.int .i64 x) ∧ w'.cell? ⟨w.heap.size, 1, none⟩ = some (.int .i64 y) ∧ w'.cell? ⟨w.heap.size, 2, none⟩ = some (.int .i64 z))
    (first | exact rhold_first HF.out | assumption | exact rhold_in HF.out (by assumption) hb5)
    (first
      | (go_at_call 26; (with_reducible refine (wrap_any (k : Int) x _).mono ?_); rw [HA.out.1, HA.out.2.1]; rintro e w5 ⟨rfl, hb5⟩)
      | (go_at_call 26; (with_reducible refine (wrap_any (k : Int) y _).mono ?_); rw [HA.out.1, HA.out.2.2.1]; rintro e w5 ⟨rfl, hb5⟩)
      | (go_at_call 26; (with_reducible refine (wrap_any (k : Int) z _).mono ?_); rw [HA.out.1, HA.out.2.2.2]; rintro e w5 ⟨rfl, hb5⟩))
  have hS : Below W.heap.size W w5 := And.left (by assumption)
  have hG := (below_obj hS HO.out)
  have hBB := HW.out.1.trans (hS.mono HW.out.1.size)
  have hgl := hG.lt
  clear hS cW hb5
  go_wp2_with fail
  have hR : RingAt (w5.alloc (.cells #[.bool true] 4)) g w5.heap.size (k : Int) := ⟨hG.alloc _, ObjAt.new _ _ _, by omega⟩
  have hQ : Keep (· = w5.heap.size) w5 (w5.alloc (.cells #[.bool true] 4)) := (Keep.refl _ _).alloc _
  have c0 := hR.f.cell 0
  generalize w5.alloc (.cells #[.bool true] 4) = v0 at *
  generalize hfz : w5.heap.size = f at *
  have HB := Lib.hid (And.intro hBB hfz)
  have P0 := Lib.hid hR
  have Q0 := Lib.hid hQ
  clear hG hBB hgl hR hQ hfz c0
  have ia := HI.out.1
  have ib := HI.out.2.1
  have ic := HI.out.2.2
  have is1 := rd_is HK.out 14 (by omega) ia ib
  have is3 := rd_is HK.out 14 (by omega) ib ic
  have im1 := rd_is HK.out 16 (by omega) ia ib
  have im3 := rd_is HK.out 16 (by omega) ia ic
  have HS := Lib.hid (And.intro ia (And.intro ib (And.intro ic (And.intro is1 (And.intro is3 (And.intro im1 im3))))))
  clear ia ib ic is1 is3 im1 im3
  refine (ringdo_ok HK.out g f 14 a b (by omega) (HS.out.1) (HS.out.2.1) _ P0.out).mono ?_
  rintro e v1 ⟨rfl, hr, hk⟩
  have P1 := Lib.hid hr
  have Q1 := Lib.hid (Q0.out.trans hk)
  clear hr hk
  go_wp2_with fail
  refine (ringdo_ok HK.out g f 14 b a (by omega) (HS.out.2.1) (HS.out.1) _ P1.out).mono ?_
  rintro e v2 ⟨rfl, hr, hk⟩
  rw [HR.out.1]
  have P2 := Lib.hid hr
  have Q2 := Lib.hid (Q1.out.trans hk)
  clear hr hk
  go_wp2_with fail
  refine (ringdo_ok HK.out g f 14 a b (by omega) (HS.out.1) (HS.out.2.1) _ P2.out).mono ?_
  rintro e v3 ⟨rfl, hr, hk⟩
  have P3 := Lib.hid hr
  have Q3 := Lib.hid (Q2.out.trans hk)
  clear hr hk
  go_wp2_with fail
  refine (ringdo_ok HK.out g f 14 (doV 14 k a b) c (by omega) (HS.out.2.2.2.1) (HS.out.2.2.1) _ P3.out).mono ?_
  rintro e v4 ⟨rfl, hr, hk⟩
  have P4 := Lib.hid hr
  have Q4 := Lib.hid (Q3.out.trans hk)
  clear hr hk
  go_wp2_with fail
  refine (ringdo_ok HK.out g f 14 b c (by omega) (HS.out.2.1) (HS.out.2.2.1) _ P4.out).mono ?_
  rintro e v5 ⟨rfl, hr, hk⟩
  have P5 := Lib.hid hr
  have Q5 := Lib.hid (Q4.out.trans hk)
  clear hr hk
  go_wp2_with fail
  refine (ringdo_ok HK.out g f 14 a (doV 14 k b c) (by omega) (HS.out.1) (HS.out.2.2.2.2.1) _ P5.out).mono ?_
  rintro e v6 ⟨rfl, hr, hk⟩
  rw [HR.out.2.1]
  have P6 := Lib.hid hr
  have Q6 := Lib.hid (Q5.out.trans hk)
  clear hr hk
  go_wp2_with fail
  refine (ringdo_ok HK.out g f 14 a b (by omega) (HS.out.1) (HS.out.2.1) _ P6.out).mono ?_
  rintro e v7 ⟨rfl, hr, hk⟩
  have P7 := Lib.hid hr
  have Q7 := Lib.hid (Q6.out.trans hk)
  clear hr hk
  go_wp2_with fail
  refine (ringdo_ok HK.out g f 15 (doV 14 k a b) b (by omega) (HS.out.2.2.2.1) (HS.out.2.1) _ P7.out).mono ?_
  rintro e v8 ⟨rfl, hr, hk⟩
  rw [HR.out.2.2.1]
  have P8 := Lib.hid hr
  have Q8 := Lib.hid (Q7.out.trans hk)
  clear hr hk
  go_wp2_with fail
  refine (ringdo_ok HK.out g f 16 a b (by omega) (HS.out.1) (HS.out.2.1) _ P8.out).mono ?_
  rintro e v9 ⟨rfl, hr, hk⟩
  have P9 := Lib.hid hr
  have Q9 := Lib.hid (Q8.out.trans hk)
  clear hr hk
  go_wp2_with fail
  refine (ringdo_ok HK.out g f 16 b a (by omega) (HS.out.2.1) (HS.out.1) _ P9.out).mono ?_
  rintro e v10 ⟨rfl, hr, hk⟩
  rw [HR.out.2.2.2.1]
  have P10 := Lib.hid hr
  have Q10 := Lib.hid (Q9.out.trans hk)
  clear hr hk
  go_wp2_with fail
  refine (ringdo_ok HK.out g f 14 b c (by omega) (HS.out.2.1) (HS.out.2.2.1) _ P10.out).mono ?_
  rintro e v11 ⟨rfl, hr, hk⟩
  have P11 := Lib.hid hr
  have Q11 := Lib.hid (Q10.out.trans hk)
  clear hr hk
  go_wp2_with fail
  refine (ringdo_ok HK.out g f 16 a (doV 14 k b c) (by omega) (HS.out.1) (HS.out.2.2.2.2.1) _ P11.out).mono ?_
  rintro e v12 ⟨rfl, hr, hk⟩
  have P12 := Lib.hid hr
  have Q12 := Lib.hid (Q11.out.trans hk)
  clear hr hk
  go_wp2_with fail
  refine (ringdo_ok HK.out g f 16 a b (by omega) (HS.out.1) (HS.out.2.1) _ P12.out).mono ?_
  rintro e v13 ⟨rfl, hr, hk⟩
  have P13 := Lib.hid hr
  have Q13 := Lib.hid (Q12.out.trans hk)
  clear hr hk
  go_wp2_with fail
  refine (ringdo_ok HK.out g f 16 a c (by omega) (HS.out.1) (HS.out.2.2.1) _ P13.out).mono ?_
  rintro e v14 ⟨rfl, hr, hk⟩
  have P14 := Lib.hid hr
  have Q14 := Lib.hid (Q13.out.trans hk)
  clear hr hk
  go_wp2_with fail
  refine (ringdo_ok HK.out g f 14 (doV 16 k a b) (doV 16 k a c) (by omega) (HS.out.2.2.2.2.2.1) (HS.out.2.2.2.2.2.2) _ P14.out).mono ?_
  rintro e v15 ⟨rfl, hr, hk⟩
  rw [HR.out.2.2.2.2]
  have P15 := Lib.hid hr
  have Q15 := Lib.hid (Q14.out.trans hk)
  clear hr hk
  by_cases h0 : b = 0
  · subst h0
    go_wp2_with fail
    refine (ringdo_ok HK.out g f 17 a 0 (by omega) (HS.out.1) (HS.out.2.1) _ P15.out).mono ?_
    rintro e v16 ⟨rfl, hr, hk⟩
    rw [(rings_0 HK.out HS.out.1).1]
    have P16 := Lib.hid hr
    have Q16 := Lib.hid (Q15.out.trans hk)
    clear hr hk
    go_wp2_with fail
    refine (ringdo_ok HK.out g f 18 a 0 (by omega) (HS.out.1) (HS.out.2.1) _ P16.out).mono ?_
    rintro e v17 ⟨rfl, hr, hk⟩
    rw [(rings_0 HK.out HS.out.1).2]
    have P17 := Lib.hid hr
    have Q17 := Lib.hid (Q16.out.trans hk)
    clear hr hk
    have cf : v17.cell? ⟨f, 0, none⟩ = some (.bool true) := P17.out.f.cell 0
    go_wp2
    go_ret
    exact ⟨ret_bool (by simp), HB.out.1.trans (Q17.out.below HB.out.1.size (fun j hj he => by have := HB.out.2; have := HB.out.1.size; omega))⟩
  · obtain ⟨g1, g2, g3, g4, g5, g6⟩ := rings_1 HK.out HS.out.1 HS.out.2.1 h0
    have iq := rd_is HK.out 17 (by omega) HS.out.1 HS.out.2.1
    have im := rd_is HK.out 18 (by omega) HS.out.1 HS.out.2.1
    obtain ⟨Q, hQ⟩ : ∃ Q, doV 17 k a b = Q := ⟨_, rfl⟩
    obtain ⟨M, hM⟩ : ∃ M, doV 18 k a b = M := ⟨_, rfl⟩
    rw [hQ, hM] at g1
    rw [hM] at g2 g3 g4 im
    rw [hQ] at iq
    have ip := rd_is HK.out 16 (by omega) iq HS.out.2.1
    have HT := Lib.hid (And.intro hQ (And.intro hM (And.intro g1 (And.intro iq (And.intro im ip)))))
    clear hQ hM g1 iq im ip
    go_wp2_with fail
    refine (ringdo_ok HK.out g f 17 a b (by omega) (HS.out.1) (HS.out.2.1) _ P15.out).mono ?_
    rintro e v16 ⟨rfl, hr, hk⟩
    rw [HT.out.1]
    have P16 := Lib.hid hr
    have Q16 := Lib.hid (Q15.out.trans hk)
    clear hr hk
    go_wp2_with fail
    refine (ringdo_ok HK.out g f 18 a b (by omega) (HS.out.1) (HS.out.2.1) _ P16.out).mono ?_
    rintro e v17 ⟨rfl, hr, hk⟩
    rw [HT.out.2.1]
    have P17 := Lib.hid hr
    have Q17 := Lib.hid (Q16.out.trans hk)
    clear hr hk
    have cf : v17.cell? ⟨f, 0, none⟩ = some (.bool true) := P17.out.f.cell 0
    have hb0 : (b == 0) = false := by rw [beq_eq_false_iff_ne]; exact h0
    rcases (by omega : (M < 0 ∧ 0 < b) ∨ (M < 0 ∧ b < 0) ∨ (M = 0 ∧ 0 < b) ∨ (M = 0 ∧ b < 0) ∨ (0 < M ∧ 0 < b) ∨ (0 < M ∧ b < 0)) with ⟨hm, hb⟩ | ⟨hm, hb⟩ | ⟨hm, hb⟩ | ⟨hm, hb⟩ | ⟨hm, hb⟩ | ⟨hm, hb⟩
    · clear h0
      have f0 : a < 0 := by omega
      have f1 : -M < b := by omega
      have f2 : -2147483648 ≤ M := by omega
      have f3 : 0 < -M := by omega
      have f8 : (-M == 0) = false := by rw [beq_eq_false_iff_ne]; omega
      clear g2 g3 g4
      go_wp2_with fail
      refine (ringdo_ok HK.out g f 16 Q b (by omega) (HT.out.2.2.2.1) (HS.out.2.1) _ P17.out).mono ?_
      rintro e v18 ⟨rfl, hr, hk⟩
      have P18 := Lib.hid hr
      have Q18 := Lib.hid (Q17.out.trans hk)
      clear hr hk
      go_wp2_with fail
      refine (ringdo_ok HK.out g f 18 a b (by omega) (HS.out.1) (HS.out.2.1) _ P18.out).mono ?_
      rintro e v19 ⟨rfl, hr, hk⟩
      rw [HT.out.2.1]
      have P19 := Lib.hid hr
      have Q19 := Lib.hid (Q18.out.trans hk)
      clear hr hk
      go_wp2_with fail
      refine (ringdo_ok HK.out g f 14 (doV 16 k Q b) M (by omega) (HT.out.2.2.2.2.2) (HT.out.2.2.2.2.1) _ P19.out).mono ?_
      rintro e v20 ⟨rfl, hr, hk⟩
      rw [HT.out.2.2.1]
      have P20 := Lib.hid hr
      have Q20 := Lib.hid (Q19.out.trans hk)
      clear hr hk
      go_wp2_with fail
      refine (ringdo_ok HK.out g f 18 a b (by omega) (HS.out.1) (HS.out.2.1) _ P20.out).mono ?_
      rintro e v21 ⟨rfl, hr, hk⟩
      rw [HT.out.2.1]
      have P21 := Lib.hid hr
      have Q21 := Lib.hid (Q20.out.trans hk)
      clear hr hk
      go_wp2
      go_ret
      exact ⟨ret_bool (by simp <;> omega), HB.out.1.trans (Q21.out.below HB.out.1.size (fun j hj he => by have := HB.out.2; have := HB.out.1.size; omega))⟩
    · clear h0
      have f0 : a < 0 := by omega
      have f1 : -M < -b := by omega
      have f2 : -2147483648 ≤ M := by omega
      have f3 : 0 < -M := by omega
      have f8 : (-M == 0) = false := by rw [beq_eq_false_iff_ne]; omega
      clear g2 g3 g4
      go_wp2_with fail
      refine (ringdo_ok HK.out g f 16 Q b (by omega) (HT.out.2.2.2.1) (HS.out.2.1) _ P17.out).mono ?_
      rintro e v18 ⟨rfl, hr, hk⟩
      have P18 := Lib.hid hr
      have Q18 := Lib.hid (Q17.out.trans hk)
      clear hr hk
      go_wp2_with fail
      refine (ringdo_ok HK.out g f 18 a b (by omega) (HS.out.1) (HS.out.2.1) _ P18.out).mono ?_
      rintro e v19 ⟨rfl, hr, hk⟩
      rw [HT.out.2.1]
      have P19 := Lib.hid hr
      have Q19 := Lib.hid (Q18.out.trans hk)
      clear hr hk
      go_wp2_with fail
      refine (ringdo_ok HK.out g f 14 (doV 16 k Q b) M (by omega) (HT.out.2.2.2.2.2) (HT.out.2.2.2.2.1) _ P19.out).mono ?_
      rintro e v20 ⟨rfl, hr, hk⟩
      rw [HT.out.2.2.1]
      have P20 := Lib.hid hr
      have Q20 := Lib.hid (Q19.out.trans hk)
      clear hr hk
      go_wp2_with fail
      refine (ringdo_ok HK.out g f 18 a b (by omega) (HS.out.1) (HS.out.2.1) _ P20.out).mono ?_
      rintro e v21 ⟨rfl, hr, hk⟩
      rw [HT.out.2.1]
      have P21 := Lib.hid hr
      have Q21 := Lib.hid (Q20.out.trans hk)
      clear hr hk
      go_wp2
      go_ret
      exact ⟨ret_bool (by simp <;> omega), HB.out.1.trans (Q21.out.below HB.out.1.size (fun j hj he => by have := HB.out.2; have := HB.out.1.size; omega))⟩
    · clear h0
      subst hm
      clear g2 g3 g4
      go_wp2_with fail
      refine (ringdo_ok HK.out g f 16 Q b (by omega) (HT.out.2.2.2.1) (HS.out.2.1) _ P17.out).mono ?_
      rintro e v18 ⟨rfl, hr, hk⟩
      have P18 := Lib.hid hr
      have Q18 := Lib.hid (Q17.out.trans hk)
      clear hr hk
      go_wp2_with fail
      refine (ringdo_ok HK.out g f 18 a b (by omega) (HS.out.1) (HS.out.2.1) _ P18.out).mono ?_
      rintro e v19 ⟨rfl, hr, hk⟩
      rw [HT.out.2.1]
      have P19 := Lib.hid hr
      have Q19 := Lib.hid (Q18.out.trans hk)
      clear hr hk
      go_wp2_with fail
      refine (ringdo_ok HK.out g f 14 (doV 16 k Q b) 0 (by omega) (HT.out.2.2.2.2.2) (HT.out.2.2.2.2.1) _ P19.out).mono ?_
      rintro e v20 ⟨rfl, hr, hk⟩
      rw [HT.out.2.2.1]
      have P20 := Lib.hid hr
      have Q20 := Lib.hid (Q19.out.trans hk)
      clear hr hk
      go_wp2
      go_ret
      exact ⟨ret_bool (by simp <;> omega), HB.out.1.trans (Q20.out.below HB.out.1.size (fun j hj he => by have := HB.out.2; have := HB.out.1.size; omega))⟩
    · clear h0
      subst hm
      clear g2 g3 g4
      go_wp2_with fail
      refine (ringdo_ok HK.out g f 16 Q b (by omega) (HT.out.2.2.2.1) (HS.out.2.1) _ P17.out).mono ?_
      rintro e v18 ⟨rfl, hr, hk⟩
      have P18 := Lib.hid hr
      have Q18 := Lib.hid (Q17.out.trans hk)
      clear hr hk
      go_wp2_with fail
      refine (ringdo_ok HK.out g f 18 a b (by omega) (HS.out.1) (HS.out.2.1) _ P18.out).mono ?_
      rintro e v19 ⟨rfl, hr, hk⟩
      rw [HT.out.2.1]
      have P19 := Lib.hid hr
      have Q19 := Lib.hid (Q18.out.trans hk)
      clear hr hk
      go_wp2_with fail
      refine (ringdo_ok HK.out g f 14 (doV 16 k Q b) 0 (by omega) (HT.out.2.2.2.2.2) (HT.out.2.2.2.2.1) _ P19.out).mono ?_
      rintro e v20 ⟨rfl, hr, hk⟩
      rw [HT.out.2.2.1]
      have P20 := Lib.hid hr
      have Q20 := Lib.hid (Q19.out.trans hk)
      clear hr hk
      go_wp2
      go_ret
      exact ⟨ret_bool (by simp <;> omega), HB.out.1.trans (Q20.out.below HB.out.1.size (fun j hj he => by have := HB.out.2; have := HB.out.1.size; omega))⟩
    · clear h0
      have f0 : 0 < a := by omega
      have f1 : M < b := by omega
      have f2 : M ≤ 2147483648 := by omega
      have f8 : (M == 0) = false := by rw [beq_eq_false_iff_ne]; omega
      clear g2 g3 g4
      go_wp2_with fail
      refine (ringdo_ok HK.out g f 16 Q b (by omega) (HT.out.2.2.2.1) (HS.out.2.1) _ P17.out).mono ?_
      rintro e v18 ⟨rfl, hr, hk⟩
      have P18 := Lib.hid hr
      have Q18 := Lib.hid (Q17.out.trans hk)
      clear hr hk
      go_wp2_with fail
      refine (ringdo_ok HK.out g f 18 a b (by omega) (HS.out.1) (HS.out.2.1) _ P18.out).mono ?_
      rintro e v19 ⟨rfl, hr, hk⟩
      rw [HT.out.2.1]
      have P19 := Lib.hid hr
      have Q19 := Lib.hid (Q18.out.trans hk)
      clear hr hk
      go_wp2_with fail
      refine (ringdo_ok HK.out g f 14 (doV 16 k Q b) M (by omega) (HT.out.2.2.2.2.2) (HT.out.2.2.2.2.1) _ P19.out).mono ?_
      rintro e v20 ⟨rfl, hr, hk⟩
      rw [HT.out.2.2.1]
      have P20 := Lib.hid hr
      have Q20 := Lib.hid (Q19.out.trans hk)
      clear hr hk
      go_wp2_with fail
      refine (ringdo_ok HK.out g f 18 a b (by omega) (HS.out.1) (HS.out.2.1) _ P20.out).mono ?_
      rintro e v21 ⟨rfl, hr, hk⟩
      rw [HT.out.2.1]
      have P21 := Lib.hid hr
      have Q21 := Lib.hid (Q20.out.trans hk)
      clear hr hk
      go_wp2
      go_ret
      exact ⟨ret_bool (by simp <;> omega), HB.out.1.trans (Q21.out.below HB.out.1.size (fun j hj he => by have := HB.out.2; have := HB.out.1.size; omega))⟩
    · clear h0
      have f0 : 0 < a := by omega
      have f1 : M < -b := by omega
      have f2 : M ≤ 2147483648 := by omega
      have f8 : (M == 0) = false := by rw [beq_eq_false_iff_ne]; omega
      clear g2 g3 g4
      go_wp2_with fail
      refine (ringdo_ok HK.out g f 16 Q b (by omega) (HT.out.2.2.2.1) (HS.out.2.1) _ P17.out).mono ?_
      rintro e v18 ⟨rfl, hr, hk⟩
      have P18 := Lib.hid hr
      have Q18 := Lib.hid (Q17.out.trans hk)
      clear hr hk
      go_wp2_with fail
      refine (ringdo_ok HK.out g f 18 a b (by omega) (HS.out.1) (HS.out.2.1) _ P18.out).mono ?_
      rintro e v19 ⟨rfl, hr, hk⟩
      rw [HT.out.2.1]
      have P19 := Lib.hid hr
      have Q19 := Lib.hid (Q18.out.trans hk)
      clear hr hk
      go_wp2_with fail
      refine (ringdo_ok HK.out g f 14 (doV 16 k Q b) M (by omega) (HT.out.2.2.2.2.2) (HT.out.2.2.2.2.1) _ P19.out).mono ?_
      rintro e v20 ⟨rfl, hr, hk⟩
      rw [HT.out.2.2.1]
      have P20 := Lib.hid hr
      have Q20 := Lib.hid (Q19.out.trans hk)
      clear hr hk
      go_wp2_with fail
      refine (ringdo_ok HK.out g f 18 a b (by omega) (HS.out.1) (HS.out.2.1) _ P20.out).mono ?_
      rintro e v21 ⟨rfl, hr, hk⟩
      rw [HT.out.2.1]
      have P21 := Lib.hid hr
      have Q21 := Lib.hid (Q20.out.trans hk)
      clear hr hk
      go_wp2
      go_ret
      exact ⟨ret_bool (by simp <;> omega), HB.out.1.trans (Q21.out.below HB.out.1.size (fun j hj he => by have := HB.out.2; have := HB.out.1.size; omega))⟩
set_option maxRecDepth 100000 in
set_option maxHeartbeats 2000000 in
theorem iecRings_walk {H : Type} {enc : TypeId × Value → H} (q : Int) (wq : (Lit.int .u8 q).wf = true) (v : Value) (d : DataW H) (p : List MemPlace) {w : World}
    (h : DataW.Trod enc Try.prog w 0 (fun _ => true) true 45 v d p) (o : Value.okWide Try.prog w .any 0 45 v) (_ : ∀ x ∈ d.weights Try.prog 45, x ≤ 140737488351232) (_ : World) :
    Calls Try.prog 6 #[.int .u8 q, v] w fun e w' => e = .returned (.bool true) ∧ Below w.heap.size w w' := by
  obtain ⟨l, hl, rfl, hw⟩ := arr_of (k := .i64) Try.underlying45 Try.underlying2 (by kernel_rfl) (by kernel_rfl) h o
  clear h o
  match l, hl, hw with
  | [x, y, z], _, hw =>
  have hq := bounds_u8 wq
  obtain ⟨q, rfl⟩ := Int.eq_ofNat_of_zero_le hq.1
  rcases (by omega : q % 4 = 0 ∨ q % 4 = 1 ∨ q % 4 = 2 ∨ q % 4 = 3) with h | h | h | h
  · exact rings_case q 2 (by omega) x y z (.inl rfl) 0 (by omega) (.inl ⟨rfl, rfl⟩) w
  · exact rings_case q 3 (by omega) x y z (.inr (.inl rfl)) 1 (by omega) (.inr (.inl ⟨rfl, rfl⟩)) w
  · exact rings_case q 4 (by omega) x y z (.inr (.inr (.inl rfl))) 2 (by omega) (.inr (.inr (.inl ⟨rfl, rfl⟩))) w
  · exact rings_case q 5 (by omega) x y z (.inr (.inr (.inr rfl))) 3 (by omega) (.inr (.inr (.inr ⟨rfl, rfl⟩))) w
end Go.Proofs.Ytclbmgnpgjhlhaa
