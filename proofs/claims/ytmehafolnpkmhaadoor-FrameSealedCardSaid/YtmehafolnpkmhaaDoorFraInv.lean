/- Plain: what can be decoded is that frame's bytes. -/
import Derived.Test.YtmehafolnpkmhaaDoorFraPln
namespace Go.Proofs.YtmehafolnpkmhaaDoor
open Go.RowKit
theorem e_b {n : Nat} {c : UInt8} (h : n % 256 = c.toNat) : UInt8.ofNat n = c := by
  apply UInt8.toNat_inj.1
  rw [← h]
  simp
def bX (c0 c1 c2 c3 c4 c5 c6 c7 c8 c9 c10 c11 c12 c13 c14 : UInt8) (T : List UInt8) : ByteArray := ⟨(c0 :: c1 :: c2 :: c3 :: c4 :: c5 :: c6 :: c7 :: c8 :: c9 :: c10 :: c11 :: c12 :: c13 :: c14 :: T).toArray⟩
section
variable (c0 c1 c2 c3 c4 c5 c6 c7 c8 c9 c10 c11 c12 c13 c14 : UInt8) (T : List UInt8)
theorem x_k : (frF (bX c0 c1 c2 c3 c4 c5 c6 c7 c8 c9 c10 c11 c12 c13 c14 T)).k = ((c0.toNat : Nat) : Int) := by
  show ((nb (bX c0 c1 c2 c3 c4 c5 c6 c7 c8 c9 c10 c11 c12 c13 c14 T) 0 1 : Nat) : Int) = _
  unfold bX
  rw [nb_list]
  simp only [List.drop_zero, List.take_succ_cons, List.take_zero]
  rw [num1]
theorem x_s : (frF (bX c0 c1 c2 c3 c4 c5 c6 c7 c8 c9 c10 c11 c12 c13 c14 T)).s = ((c2.toNat : Nat) : Int) := by
  show ((nb (bX c0 c1 c2 c3 c4 c5 c6 c7 c8 c9 c10 c11 c12 c13 c14 T) 2 1 : Nat) : Int) = _
  unfold bX
  rw [nb_list]
  simp only [List.drop_succ_cons, List.drop_zero, List.take_succ_cons, List.take_zero]
  rw [num1]
theorem x_si : (frF (bX c0 c1 c2 c3 c4 c5 c6 c7 c8 c9 c10 c11 c12 c13 c14 T)).si = ((c3.toNat * 256 + c4.toNat : Nat) : Int) := by
  show ((nb (bX c0 c1 c2 c3 c4 c5 c6 c7 c8 c9 c10 c11 c12 c13 c14 T) 3 2 : Nat) : Int) = _
  unfold bX
  rw [nb_list]
  simp only [List.drop_succ_cons, List.drop_zero, List.take_succ_cons, List.take_zero]
  rw [num2]
theorem x_d : (frF (bX c0 c1 c2 c3 c4 c5 c6 c7 c8 c9 c10 c11 c12 c13 c14 T)).d = ((c5.toNat : Nat) : Int) := by
  show ((nb (bX c0 c1 c2 c3 c4 c5 c6 c7 c8 c9 c10 c11 c12 c13 c14 T) 5 1 : Nat) : Int) = _
  unfold bX
  rw [nb_list]
  simp only [List.drop_succ_cons, List.drop_zero, List.take_succ_cons, List.take_zero]
  rw [num1]
theorem x_di : (frF (bX c0 c1 c2 c3 c4 c5 c6 c7 c8 c9 c10 c11 c12 c13 c14 T)).di = ((c6.toNat * 256 + c7.toNat : Nat) : Int) := by
  show ((nb (bX c0 c1 c2 c3 c4 c5 c6 c7 c8 c9 c10 c11 c12 c13 c14 T) 6 2 : Nat) : Int) = _
  unfold bX
  rw [nb_list]
  simp only [List.drop_succ_cons, List.drop_zero, List.take_succ_cons, List.take_zero]
  rw [num2]
theorem x_ec : (frF (bX c0 c1 c2 c3 c4 c5 c6 c7 c8 c9 c10 c11 c12 c13 c14 T)).ec = ((c8.toNat * 256 + c9.toNat : Nat) : Int) := by
  show ((nb (bX c0 c1 c2 c3 c4 c5 c6 c7 c8 c9 c10 c11 c12 c13 c14 T) 8 2 : Nat) : Int) = _
  unfold bX
  rw [nb_list]
  simp only [List.drop_succ_cons, List.drop_zero, List.take_succ_cons, List.take_zero]
  rw [num2]
theorem x_ea : (frF (bX c0 c1 c2 c3 c4 c5 c6 c7 c8 c9 c10 c11 c12 c13 c14 T)).ea = ((c10.toNat : Nat) : Int) := by
  show ((nb (bX c0 c1 c2 c3 c4 c5 c6 c7 c8 c9 c10 c11 c12 c13 c14 T) 10 1 : Nat) : Int) = _
  unfold bX
  rw [nb_list]
  simp only [List.drop_succ_cons, List.drop_zero, List.take_succ_cons, List.take_zero]
  rw [num1]
theorem x_ei : (frF (bX c0 c1 c2 c3 c4 c5 c6 c7 c8 c9 c10 c11 c12 c13 c14 T)).ei = ((c11.toNat * 256 + c12.toNat : Nat) : Int) := by
  show ((nb (bX c0 c1 c2 c3 c4 c5 c6 c7 c8 c9 c10 c11 c12 c13 c14 T) 11 2 : Nat) : Int) = _
  unfold bX
  rw [nb_list]
  simp only [List.drop_succ_cons, List.drop_zero, List.take_succ_cons, List.take_zero]
  rw [num2]
theorem x_h : (frF (bX c0 c1 c2 c3 c4 c5 c6 c7 c8 c9 c10 c11 c12 c13 c14 T)).h = ((c13.toNat * 256 + c14.toNat : Nat) : Int) := by
  show ((nb (bX c0 c1 c2 c3 c4 c5 c6 c7 c8 c9 c10 c11 c12 c13 c14 T) 13 2 : Nat) : Int) = _
  unfold bX
  rw [nb_list]
  simp only [List.drop_succ_cons, List.drop_zero, List.take_succ_cons, List.take_zero]
  rw [num2]
theorem body_x (hs : (c1.toNat : Int) = sizeF (frF (bX c0 c1 c2 c3 c4 c5 c6 c7 c8 c9 c10 c11 c12 c13 c14 T))) (hT : tailB (frF (bX c0 c1 c2 c3 c4 c5 c6 c7 c8 c9 c10 c11 c12 c13 c14 T)) = T) : bodyB (frF (bX c0 c1 c2 c3 c4 c5 c6 c7 c8 c9 c10 c11 c12 c13 c14 T)) = c0 :: c1 :: c2 :: c3 :: c4 :: c5 :: c6 :: c7 :: c8 :: c9 :: c10 :: c11 :: c12 :: c13 :: c14 :: T := by
  rw [body_eq, hT, ← hs]
  have t0 := c0.toNat_lt
  have t1 := c1.toNat_lt
  have t2 := c2.toNat_lt
  have t3 := c3.toNat_lt
  have t4 := c4.toNat_lt
  have t5 := c5.toNat_lt
  have t6 := c6.toNat_lt
  have t7 := c7.toNat_lt
  have t8 := c8.toNat_lt
  have t9 := c9.toNat_lt
  have t10 := c10.toNat_lt
  have t11 := c11.toNat_lt
  have t12 := c12.toNat_lt
  have t13 := c13.toNat_lt
  have t14 := c14.toNat_lt
  have e0 : UInt8.ofNat (frF (bX c0 c1 c2 c3 c4 c5 c6 c7 c8 c9 c10 c11 c12 c13 c14 T)).k.toNat = c0 := by rw [x_k, Int.toNat_natCast]; exact e_b (by omega)
  have e2 : UInt8.ofNat (frF (bX c0 c1 c2 c3 c4 c5 c6 c7 c8 c9 c10 c11 c12 c13 c14 T)).s.toNat = c2 := by rw [x_s, Int.toNat_natCast]; exact e_b (by omega)
  have e3 : UInt8.ofNat ((frF (bX c0 c1 c2 c3 c4 c5 c6 c7 c8 c9 c10 c11 c12 c13 c14 T)).si.toNat / 256 ^ 1 % 256) = c3 := by rw [x_si, Int.toNat_natCast]; exact e_b (by omega)
  have e4 : UInt8.ofNat ((frF (bX c0 c1 c2 c3 c4 c5 c6 c7 c8 c9 c10 c11 c12 c13 c14 T)).si.toNat / 256 ^ 0 % 256) = c4 := by rw [x_si, Int.toNat_natCast]; exact e_b (by omega)
  have e5 : UInt8.ofNat (frF (bX c0 c1 c2 c3 c4 c5 c6 c7 c8 c9 c10 c11 c12 c13 c14 T)).d.toNat = c5 := by rw [x_d, Int.toNat_natCast]; exact e_b (by omega)
  have e6 : UInt8.ofNat ((frF (bX c0 c1 c2 c3 c4 c5 c6 c7 c8 c9 c10 c11 c12 c13 c14 T)).di.toNat / 256 ^ 1 % 256) = c6 := by rw [x_di, Int.toNat_natCast]; exact e_b (by omega)
  have e7 : UInt8.ofNat ((frF (bX c0 c1 c2 c3 c4 c5 c6 c7 c8 c9 c10 c11 c12 c13 c14 T)).di.toNat / 256 ^ 0 % 256) = c7 := by rw [x_di, Int.toNat_natCast]; exact e_b (by omega)
  have e8 : UInt8.ofNat ((frF (bX c0 c1 c2 c3 c4 c5 c6 c7 c8 c9 c10 c11 c12 c13 c14 T)).ec.toNat / 256 ^ 1 % 256) = c8 := by rw [x_ec, Int.toNat_natCast]; exact e_b (by omega)
  have e9 : UInt8.ofNat ((frF (bX c0 c1 c2 c3 c4 c5 c6 c7 c8 c9 c10 c11 c12 c13 c14 T)).ec.toNat / 256 ^ 0 % 256) = c9 := by rw [x_ec, Int.toNat_natCast]; exact e_b (by omega)
  have e10 : UInt8.ofNat (frF (bX c0 c1 c2 c3 c4 c5 c6 c7 c8 c9 c10 c11 c12 c13 c14 T)).ea.toNat = c10 := by rw [x_ea, Int.toNat_natCast]; exact e_b (by omega)
  have e11 : UInt8.ofNat ((frF (bX c0 c1 c2 c3 c4 c5 c6 c7 c8 c9 c10 c11 c12 c13 c14 T)).ei.toNat / 256 ^ 1 % 256) = c11 := by rw [x_ei, Int.toNat_natCast]; exact e_b (by omega)
  have e12 : UInt8.ofNat ((frF (bX c0 c1 c2 c3 c4 c5 c6 c7 c8 c9 c10 c11 c12 c13 c14 T)).ei.toNat / 256 ^ 0 % 256) = c12 := by rw [x_ei, Int.toNat_natCast]; exact e_b (by omega)
  have e13 : UInt8.ofNat ((frF (bX c0 c1 c2 c3 c4 c5 c6 c7 c8 c9 c10 c11 c12 c13 c14 T)).h.toNat / 256 ^ 1 % 256) = c13 := by rw [x_h, Int.toNat_natCast]; exact e_b (by omega)
  have e14 : UInt8.ofNat ((frF (bX c0 c1 c2 c3 c4 c5 c6 c7 c8 c9 c10 c11 c12 c13 c14 T)).h.toNat / 256 ^ 0 % 256) = c14 := by rw [x_h, Int.toNat_natCast]; exact e_b (by omega)
  have e1 : UInt8.ofNat (c1.toNat : Int).toNat = c1 := by rw [Int.toNat_natCast]; exact e_b (by omega)
  simp only [e0, e2, e3, e4, e5, e6, e7, e8, e9, e10, e11, e12, e13, e14, e1]
theorem x_b0 : nb (bX c0 c1 c2 c3 c4 c5 c6 c7 c8 c9 c10 c11 c12 c13 c14 T) 0 1 = c0.toNat := by
  unfold bX
  rw [nb_list]
  simp only [List.drop_zero, List.take_succ_cons, List.take_zero]
  rw [num1]
theorem tail_x3 (h : c0.toNat = 3) (b0 b1 b2 b3 b4 b5 : UInt8) (hT : T = [b0, b1, b2, b3, b4, b5]) (hw : b5.toNat < 2) : tailB (frF (bX c0 c1 c2 c3 c4 c5 c6 c7 c8 c9 c10 c11 c12 c13 c14 T)) = T := by
  subst hT
  rw [tail_3 (by rw [x_k, h]; rfl)]
  have u0 := b0.toNat_lt
  have u1 := b1.toNat_lt
  have u2 := b2.toNat_lt
  have u3 := b3.toNat_lt
  have u4 := b4.toNat_lt
  have y_hc : (frF (bX c0 c1 c2 c3 c4 c5 c6 c7 c8 c9 c10 c11 c12 c13 c14 [b0, b1, b2, b3, b4, b5])).hc = ((b0.toNat * 256 + b1.toNat : Nat) : Int) := by
    rw [frF_hc, x_b0, if_pos h]
    unfold bX
    rw [nb_list]
    simp only [List.drop_succ_cons, List.drop_zero, List.take_succ_cons, List.take_zero]
    rw [num2]
  have y_ha : (frF (bX c0 c1 c2 c3 c4 c5 c6 c7 c8 c9 c10 c11 c12 c13 c14 [b0, b1, b2, b3, b4, b5])).ha = ((b2.toNat : Nat) : Int) := by
    rw [frF_ha, x_b0, if_pos h]
    unfold bX
    rw [nb_list]
    simp only [List.drop_succ_cons, List.drop_zero, List.take_succ_cons, List.take_zero]
    rw [num1]
  have y_hi : (frF (bX c0 c1 c2 c3 c4 c5 c6 c7 c8 c9 c10 c11 c12 c13 c14 [b0, b1, b2, b3, b4, b5])).hi = ((b3.toNat * 256 + b4.toNat : Nat) : Int) := by
    rw [frF_hi, x_b0, if_pos h]
    unfold bX
    rw [nb_list]
    simp only [List.drop_succ_cons, List.drop_zero, List.take_succ_cons, List.take_zero]
    rw [num2]
  have y_w : (frF (bX c0 c1 c2 c3 c4 c5 c6 c7 c8 c9 c10 c11 c12 c13 c14 [b0, b1, b2, b3, b4, b5])).w = decide (b5.toNat = 1) := by
    rw [frF_w, x_b0]
    unfold bX
    rw [nb_list]
    simp only [List.drop_succ_cons, List.drop_zero, List.take_succ_cons, List.take_zero]
    rw [num1]
    simp [h]
  have e15 : UInt8.ofNat ((frF (bX c0 c1 c2 c3 c4 c5 c6 c7 c8 c9 c10 c11 c12 c13 c14 [b0, b1, b2, b3, b4, b5])).hc.toNat / 256 ^ 1 % 256) = b0 := by rw [y_hc, Int.toNat_natCast]; exact e_b (by omega)
  have e16 : UInt8.ofNat ((frF (bX c0 c1 c2 c3 c4 c5 c6 c7 c8 c9 c10 c11 c12 c13 c14 [b0, b1, b2, b3, b4, b5])).hc.toNat / 256 ^ 0 % 256) = b1 := by rw [y_hc, Int.toNat_natCast]; exact e_b (by omega)
  have e17 : UInt8.ofNat (frF (bX c0 c1 c2 c3 c4 c5 c6 c7 c8 c9 c10 c11 c12 c13 c14 [b0, b1, b2, b3, b4, b5])).ha.toNat = b2 := by rw [y_ha, Int.toNat_natCast]; exact e_b (by omega)
  have e18 : UInt8.ofNat ((frF (bX c0 c1 c2 c3 c4 c5 c6 c7 c8 c9 c10 c11 c12 c13 c14 [b0, b1, b2, b3, b4, b5])).hi.toNat / 256 ^ 1 % 256) = b3 := by rw [y_hi, Int.toNat_natCast]; exact e_b (by omega)
  have e19 : UInt8.ofNat ((frF (bX c0 c1 c2 c3 c4 c5 c6 c7 c8 c9 c10 c11 c12 c13 c14 [b0, b1, b2, b3, b4, b5])).hi.toNat / 256 ^ 0 % 256) = b4 := by rw [y_hi, Int.toNat_natCast]; exact e_b (by omega)
  have e20 : UInt8.ofNat (if (frF (bX c0 c1 c2 c3 c4 c5 c6 c7 c8 c9 c10 c11 c12 c13 c14 [b0, b1, b2, b3, b4, b5])).w = true then 1 else 0) = b5 := by
    rw [y_w]
    by_cases e : b5.toNat = 1
    · rw [if_pos (by simp [e])]
      exact e_b (by omega)
    · rw [if_neg (by simp [e])]
      exact e_b (by omega)
  simp only [e15, e16, e17, e18, e19, e20]
theorem tail_x4 (h : c0.toNat = 4) (b0 b1 b2 b3 b4 b5 b6 b7 b8 : UInt8) (R : List UInt8) (hT : T = b0 :: b1 :: b2 :: b3 :: b4 :: b5 :: b6 :: b7 :: b8 :: R) : tailB (frF (bX c0 c1 c2 c3 c4 c5 c6 c7 c8 c9 c10 c11 c12 c13 c14 T)) = T := by
  subst hT
  rw [tail_4 (by rw [x_k, h]; rfl)]
  have u0 := b0.toNat_lt
  have u1 := b1.toNat_lt
  have u2 := b2.toNat_lt
  have u3 := b3.toNat_lt
  have u4 := b4.toNat_lt
  have u5 := b5.toNat_lt
  have u6 := b6.toNat_lt
  have u7 := b7.toNat_lt
  have u8 := b8.toNat_lt
  have y_b : (frF (bX c0 c1 c2 c3 c4 c5 c6 c7 c8 c9 c10 c11 c12 c13 c14 (b0 :: b1 :: b2 :: b3 :: b4 :: b5 :: b6 :: b7 :: b8 :: R))).b = ((b0.toNat : Nat) : Int) := by
    rw [frF_b, x_b0, if_pos h]
    unfold bX
    rw [nb_list]
    simp only [List.drop_succ_cons, List.drop_zero, List.take_succ_cons, List.take_zero]
    rw [num1]
  have e15 : UInt8.ofNat (frF (bX c0 c1 c2 c3 c4 c5 c6 c7 c8 c9 c10 c11 c12 c13 c14 (b0 :: b1 :: b2 :: b3 :: b4 :: b5 :: b6 :: b7 :: b8 :: R))).b.toNat = b0 := by rw [y_b, Int.toNat_natCast]; exact e_b (by omega)
  have y_vi : (frF (bX c0 c1 c2 c3 c4 c5 c6 c7 c8 c9 c10 c11 c12 c13 c14 (b0 :: b1 :: b2 :: b3 :: b4 :: b5 :: b6 :: b7 :: b8 :: R))).vi = ((b1.toNat * 256 + b2.toNat : Nat) : Int) := by
    rw [frF_vi, x_b0, if_pos h]
    unfold bX
    rw [nb_list]
    simp only [List.drop_succ_cons, List.drop_zero, List.take_succ_cons, List.take_zero]
    rw [num2]
  have e16 : UInt8.ofNat ((frF (bX c0 c1 c2 c3 c4 c5 c6 c7 c8 c9 c10 c11 c12 c13 c14 (b0 :: b1 :: b2 :: b3 :: b4 :: b5 :: b6 :: b7 :: b8 :: R))).vi.toNat / 256 ^ 1 % 256) = b1 := by rw [y_vi, Int.toNat_natCast]; exact e_b (by omega)
  have e17 : UInt8.ofNat ((frF (bX c0 c1 c2 c3 c4 c5 c6 c7 c8 c9 c10 c11 c12 c13 c14 (b0 :: b1 :: b2 :: b3 :: b4 :: b5 :: b6 :: b7 :: b8 :: R))).vi.toNat / 256 ^ 0 % 256) = b2 := by rw [y_vi, Int.toNat_natCast]; exact e_b (by omega)
  have y_vs : (frF (bX c0 c1 c2 c3 c4 c5 c6 c7 c8 c9 c10 c11 c12 c13 c14 (b0 :: b1 :: b2 :: b3 :: b4 :: b5 :: b6 :: b7 :: b8 :: R))).vs = ((((b3.toNat * 256 + b4.toNat) * 256 + b5.toNat) * 256 + b6.toNat : Nat) : Int) := by
    rw [frF_vs, x_b0, if_pos h]
    unfold bX
    rw [nb_list]
    simp only [List.drop_succ_cons, List.drop_zero, List.take_succ_cons, List.take_zero]
    rw [num4]
  have e18 : UInt8.ofNat ((frF (bX c0 c1 c2 c3 c4 c5 c6 c7 c8 c9 c10 c11 c12 c13 c14 (b0 :: b1 :: b2 :: b3 :: b4 :: b5 :: b6 :: b7 :: b8 :: R))).vs.toNat / 256 ^ 3 % 256) = b3 := by rw [y_vs, Int.toNat_natCast]; exact e_b (by omega)
  have e19 : UInt8.ofNat ((frF (bX c0 c1 c2 c3 c4 c5 c6 c7 c8 c9 c10 c11 c12 c13 c14 (b0 :: b1 :: b2 :: b3 :: b4 :: b5 :: b6 :: b7 :: b8 :: R))).vs.toNat / 256 ^ 2 % 256) = b4 := by rw [y_vs, Int.toNat_natCast]; exact e_b (by omega)
  have e20 : UInt8.ofNat ((frF (bX c0 c1 c2 c3 c4 c5 c6 c7 c8 c9 c10 c11 c12 c13 c14 (b0 :: b1 :: b2 :: b3 :: b4 :: b5 :: b6 :: b7 :: b8 :: R))).vs.toNat / 256 ^ 1 % 256) = b5 := by rw [y_vs, Int.toNat_natCast]; exact e_b (by omega)
  have e21 : UInt8.ofNat ((frF (bX c0 c1 c2 c3 c4 c5 c6 c7 c8 c9 c10 c11 c12 c13 c14 (b0 :: b1 :: b2 :: b3 :: b4 :: b5 :: b6 :: b7 :: b8 :: R))).vs.toNat / 256 ^ 0 % 256) = b6 := by rw [y_vs, Int.toNat_natCast]; exact e_b (by omega)
  have y_p : (frF (bX c0 c1 c2 c3 c4 c5 c6 c7 c8 c9 c10 c11 c12 c13 c14 (b0 :: b1 :: b2 :: b3 :: b4 :: b5 :: b6 :: b7 :: b8 :: R))).p = ((b7.toNat : Nat) : Int) := by
    rw [frF_p, x_b0, if_pos h]
    unfold bX
    rw [nb_list]
    simp only [List.drop_succ_cons, List.drop_zero, List.take_succ_cons, List.take_zero]
    rw [num1]
  have e22 : UInt8.ofNat (frF (bX c0 c1 c2 c3 c4 c5 c6 c7 c8 c9 c10 c11 c12 c13 c14 (b0 :: b1 :: b2 :: b3 :: b4 :: b5 :: b6 :: b7 :: b8 :: R))).p.toNat = b7 := by rw [y_p, Int.toNat_natCast]; exact e_b (by omega)
  have y_q : (frF (bX c0 c1 c2 c3 c4 c5 c6 c7 c8 c9 c10 c11 c12 c13 c14 (b0 :: b1 :: b2 :: b3 :: b4 :: b5 :: b6 :: b7 :: b8 :: R))).q = ((b8.toNat : Nat) : Int) := by
    rw [frF_q, x_b0, if_pos h]
    unfold bX
    rw [nb_list]
    simp only [List.drop_succ_cons, List.drop_zero, List.take_succ_cons, List.take_zero]
    rw [num1]
  have e23 : UInt8.ofNat (frF (bX c0 c1 c2 c3 c4 c5 c6 c7 c8 c9 c10 c11 c12 c13 c14 (b0 :: b1 :: b2 :: b3 :: b4 :: b5 :: b6 :: b7 :: b8 :: R))).q.toNat = b8 := by rw [y_q, Int.toNat_natCast]; exact e_b (by omega)
  have y_t : (frF (bX c0 c1 c2 c3 c4 c5 c6 c7 c8 c9 c10 c11 c12 c13 c14 (b0 :: b1 :: b2 :: b3 :: b4 :: b5 :: b6 :: b7 :: b8 :: R))).t.data.toList = R := by
    rw [frF_t, x_b0, if_pos h]
    unfold bX
    rw [str_size, ByteArray.data_extract, Array.toList_extract, List.extract_eq_take_drop, List.take_of_length_le (by simp)]
    simp only [List.drop_succ_cons, List.drop_zero]
  simp only [e15, e16, e17, e18, e19, e20, e21, e22, e23, y_t]
theorem tail_x0 (h3 : ¬ c0.toNat = 3) (h4 : ¬ c0.toNat = 4) (hT : T = []) : tailB (frF (bX c0 c1 c2 c3 c4 c5 c6 c7 c8 c9 c10 c11 c12 c13 c14 T)) = T := by
  rw [hT, tail_0 (by rw [x_k]; omega) (by rw [x_k]; omega)]
end
theorem frF_ok (s : ByteArray) : (frF s).ok := by
  have b1 := fun a => nb_lt s a 1 (by decide)
  have b2 := fun a => nb_lt s a 2 (by decide)
  have b4 := fun a => nb_lt s a 4 (by decide)
  refine ⟨?_, ?_, ?_, ?_, ?_, ?_, ?_, ?_, ?_, ?_, ?_, ?_, ?_, ?_, ?_, ?_, ?_⟩
  · show _ ≤ ((nb s 0 1 : Nat) : Int) ∧ ((nb s 0 1 : Nat) : Int) ≤ _
    have := b1 0
    omega
  · show _ ≤ ((nb s 2 1 : Nat) : Int) ∧ ((nb s 2 1 : Nat) : Int) < _
    have := b1 2
    omega
  · show _ ≤ ((nb s 5 1 : Nat) : Int) ∧ ((nb s 5 1 : Nat) : Int) < _
    have := b1 5
    omega
  · show _ ≤ ((nb s 3 2 : Nat) : Int) ∧ ((nb s 3 2 : Nat) : Int) < _
    have := b2 3
    omega
  · show _ ≤ ((nb s 6 2 : Nat) : Int) ∧ ((nb s 6 2 : Nat) : Int) < _
    have := b2 6
    omega
  · show _ ≤ ((nb s 8 2 : Nat) : Int) ∧ ((nb s 8 2 : Nat) : Int) < _
    have := b2 8
    omega
  · show _ ≤ ((nb s 10 1 : Nat) : Int) ∧ ((nb s 10 1 : Nat) : Int) < _
    have := b1 10
    omega
  · show _ ≤ ((nb s 11 2 : Nat) : Int) ∧ ((nb s 11 2 : Nat) : Int) < _
    have := b2 11
    omega
  · show _ ≤ ((nb s 13 2 : Nat) : Int) ∧ ((nb s 13 2 : Nat) : Int) < _
    have := b2 13
    omega
  · rw [frF_hc]
    have := b2 15
    split <;> omega
  · rw [frF_ha]
    have := b1 17
    split <;> omega
  · rw [frF_hi]
    have := b2 18
    split <;> omega
  · rw [frF_b]
    have := b1 15
    split <;> omega
  · rw [frF_vi]
    have := b2 16
    split <;> omega
  · rw [frF_vs]
    have := b4 18
    split <;> omega
  · rw [frF_p]
    have := b1 22
    split <;> omega
  · rw [frF_q]
    have := b1 23
    split <;> omega
theorem dec_err {s : ByteArray} (h : (decF s).2 ≠ 0) : (decF s).1 = Fr.zero := by
  unfold decF at h ⊢
  split
  · rfl
  split
  · rfl
  split
  · rfl
  split
  · rfl
  split
  · rfl
  · rename_i h1 h2 h3 h4 h5
    rw [if_neg h1, if_neg h2, if_neg h3, if_neg h4, if_neg h5] at h
    exact absurd rfl h
theorem list15 {l : List UInt8} (h : 15 ≤ l.length) : ∃ c0 c1 c2 c3 c4 c5 c6 c7 c8 c9 c10 c11 c12 c13 c14 T, l = c0 :: c1 :: c2 :: c3 :: c4 :: c5 :: c6 :: c7 :: c8 :: c9 :: c10 :: c11 :: c12 :: c13 :: c14 :: T := by
  match l, h with
  | c0 :: c1 :: c2 :: c3 :: c4 :: c5 :: c6 :: c7 :: c8 :: c9 :: c10 :: c11 :: c12 :: c13 :: c14 :: T, _ => exact ⟨c0, c1, c2, c3, c4, c5, c6, c7, c8, c9, c10, c11, c12, c13, c14, T, rfl⟩
structure DecOk (s : ByteArray) (f : Fr) : Prop where
  dec : decF s = (f, 0)
  fr : f = frF (s.extract 0 (s.size - 2))
  right : rightP f
  ok : f.ok
  enc : encF f = s
  size : 17 ≤ s.size ∧ s.size ≤ 255
  k3 : nb s 0 1 = 3 → 23 ≤ s.size
  k4 : nb s 0 1 = 4 → 26 ≤ s.size
theorem dec_ok {s : ByteArray} (h : (decF s).2 = 0) : DecOk s (frF (s.extract 0 (s.size - 2))) := by
  have hd := h
  unfold decF at h
  split at h
  · simp at h
  split at h
  · simp at h
  split at h
  · simp at h
  split at h
  · simp at h
  split at h
  · simp at h
  rename_i h1 h2 h3 h4 h5
  have hdec : decF s = (frF (s.extract 0 (s.size - 2)), 0) := by
    unfold decF
    rw [if_neg h1, if_neg h2, if_neg h3, if_neg h4, if_neg h5]
  have h17 : 17 ≤ s.size ∧ s.size ≤ 255 ∧ s.size = nb s 1 1 := by omega
  have hk : 1 ≤ nb s 0 1 ∧ nb s 0 1 ≤ 5 := by omega
  have hr : rightP (frF (s.extract 0 (s.size - 2))) := by
    by_cases e : rightP (frF (s.extract 0 (s.size - 2)))
    · exact e
    · exact absurd (.inr e) h5
  have hw : okW (s.extract 0 (s.size - 2)) = true := by
    by_cases e : okW (s.extract 0 (s.size - 2)) = true
    · exact e
    · exact absurd (.inl (by simpa using e)) h5
  have hm : Crc.more 65535 s.data.toList = 0 := by
    by_cases e : Crc.more 65535 s.data.toList = 0
    · exact e
    · rw [Crc.opened_no s e] at h2
      exact absurd rfl h2
  have hse := (Crc.open_just s (by omega)).1 hm
  have hxs : (s.extract 0 (s.size - 2)).size = s.size - 2 := by rw [ByteArray.size_extract]; omega
  have n0 := nb_ext s (s.size - 2) 0 1 (by omega)
  have n1 := nb_ext s (s.size - 2) 1 1 (by omega)
  obtain ⟨x, hx⟩ : ∃ x, x = s.extract 0 (s.size - 2) := ⟨_, rfl⟩
  rw [← hx] at hr hw hse hxs n0 n1 hdec
  have hl : x.data.toList.length = s.size - 2 := by rw [Array.length_toList]; exact hxs
  obtain ⟨c0, c1, c2, c3, c4, c5, c6, c7, c8, c9, c10, c11, c12, c13, c14, T, hL⟩ := list15 (l := x.data.toList) (by omega)
  have hxx : x = (bX c0 c1 c2 c3 c4 c5 c6 c7 c8 c9 c10 c11 c12 c13 c14 T) := by
    apply Crc.ext_list
    rw [hL]
    rfl
  have hTl : T.length + 17 = s.size := by
    rw [hL] at hl
    simp only [List.length_cons] at hl
    omega
  have hb0 : nb s 0 1 = c0.toNat := by rw [← n0, hxx, x_b0]
  have hb1 : nb s 1 1 = c1.toNat := by
    rw [← n1, hxx]
    unfold bX
    rw [nb_list]
    simp only [List.drop_succ_cons, List.drop_zero, List.take_succ_cons, List.take_zero]
    rw [num1]
  have hsh : (s.size : Int) ≥ (shapeF (nb s 0 1 : Nat)).2.2.1 ∧ (s.size : Int) ≤ (shapeF (nb s 0 1 : Nat)).2.2.2.1 := by omega
  have hT : tailB (frF (bX c0 c1 c2 c3 c4 c5 c6 c7 c8 c9 c10 c11 c12 c13 c14 T)) = T ∧ (nb s 0 1 = 3 → 23 ≤ s.size) ∧ (nb s 0 1 = 4 → 26 ≤ s.size) := by
    by_cases e3 : nb s 0 1 = 3
    · have := sh_3 e3
      refine ⟨?_, fun _ => by omega, fun e => by omega⟩
      match T, (show T.length = 6 by omega) with
      | [b0, b1, b2, b3, b4, b5], _ =>
        refine tail_x3 _ _ _ _ _ _ _ _ _ _ _ _ _ _ _ _ (by omega) b0 b1 b2 b3 b4 b5 rfl ?_
        have hq := of_decide_eq_true hw (by rw [n0]; exact e3)
        rw [hxx] at hq
        unfold bX at hq
        rw [nb_list] at hq
        simp only [List.drop_succ_cons, List.drop_zero, List.take_succ_cons, List.take_zero] at hq
        rw [num1] at hq
        exact hq
    · by_cases e4 : nb s 0 1 = 4
      · have := sh_4 e4
        refine ⟨?_, fun e => by omega, fun _ => by omega⟩
        match T, (show 9 ≤ T.length by omega) with
        | b0 :: b1 :: b2 :: b3 :: b4 :: b5 :: b6 :: b7 :: b8 :: R, _ => exact tail_x4 _ _ _ _ _ _ _ _ _ _ _ _ _ _ _ _ (by omega) b0 b1 b2 b3 b4 b5 b6 b7 b8 R rfl
      · have := sh_o hk e4 e3
        refine ⟨?_, fun e => by omega, fun e => by omega⟩
        exact tail_x0 _ _ _ _ _ _ _ _ _ _ _ _ _ _ _ _ (by omega) (by omega) (List.eq_nil_of_length_eq_zero (by omega))
  obtain ⟨hT, q3, q4⟩ := hT
  have hst := sizeF_tail hr
  rw [hxx] at hst hr hdec
  rw [hT] at hst
  have hbd := body_x c0 c1 c2 c3 c4 c5 c6 c7 c8 c9 c10 c11 c12 c13 c14 T (by omega) hT
  rw [← hx, hxx]
  refine ⟨hdec, by rw [← hx, hxx], hr, frF_ok _, ?_, ⟨h17.1, h17.2.1⟩, q3, q4⟩
  unfold encF
  rw [if_pos hr, hbd, ← hL, ← hse]
end Go.Proofs.YtmehafolnpkmhaaDoor
