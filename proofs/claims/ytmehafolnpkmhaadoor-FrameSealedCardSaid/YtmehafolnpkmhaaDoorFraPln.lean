/- Plain: what was encoded is decoded; sizes. -/
import Derived.Test.YtmehafolnpkmhaaDoorFraRby
import Derived.Test.YtmehafolnpkmhaaDoorFraDec
import Derived.Test.YtmehafolnpkmhaaDoorFraRer
namespace Go.Proofs.YtmehafolnpkmhaaDoor
open Go.RowKit
theorem nb_list (l : List UInt8) (a n : Nat) : nb ⟨l.toArray⟩ a n = Oct.num ((l.drop a).take n) := by
  unfold nb
  congr 1
  rw [ByteArray.data_extract, Array.toList_extract, List.extract_eq_take_drop]
  rw [show a + n - a = n by omega]
theorem num1 (c : UInt8) : Oct.num [c] = c.toNat := by
  have := c.toNat_lt
  simp [Oct.num]
theorem num2 (c d : UInt8) : Oct.num [c, d] = c.toNat * 256 + d.toNat := by
  have := c.toNat_lt
  have := d.toNat_lt
  simp [Oct.num]
  omega
theorem num4 (c d e g : UInt8) : Oct.num [c, d, e, g] = ((c.toNat * 256 + d.toNat) * 256 + e.toNat) * 256 + g.toNat := by
  have := c.toNat_lt
  have := d.toNat_lt
  have := e.toNat_lt
  have := g.toNat_lt
  simp [Oct.num]
  omega
theorem of_b (n : Nat) (h : n < 256) : (UInt8.ofNat n).toNat = n := by simp; omega
theorem nm1 (x : Int) (h : 0 ≤ x ∧ x < 256) : ((Oct.num [UInt8.ofNat x.toNat] : Nat) : Int) = x := by
  rw [num1, of_b _ (by omega)]
  omega
theorem nm2 (x : Int) (h : 0 ≤ x ∧ x < 65536) : ((Oct.num [UInt8.ofNat (x.toNat / 256 ^ 1 % 256), UInt8.ofNat (x.toNat / 256 ^ 0 % 256)] : Nat) : Int) = x := by
  rw [num2, of_b _ (by omega), of_b _ (by omega)]
  omega
theorem nm4 (x : Int) (h : 0 ≤ x ∧ x < 4294967296) : ((Oct.num [UInt8.ofNat (x.toNat / 256 ^ 3 % 256), UInt8.ofNat (x.toNat / 256 ^ 2 % 256), UInt8.ofNat (x.toNat / 256 ^ 1 % 256), UInt8.ofNat (x.toNat / 256 ^ 0 % 256)] : Nat) : Int) = x := by
  rw [num4, of_b _ (by omega), of_b _ (by omega), of_b _ (by omega), of_b _ (by omega)]
  omega
theorem body_eq (f : Fr) : bodyB f = UInt8.ofNat f.k.toNat :: UInt8.ofNat (sizeF f).toNat :: UInt8.ofNat f.s.toNat :: UInt8.ofNat (f.si.toNat / 256 ^ 1 % 256) :: UInt8.ofNat (f.si.toNat / 256 ^ 0 % 256) :: UInt8.ofNat f.d.toNat :: UInt8.ofNat (f.di.toNat / 256 ^ 1 % 256) :: UInt8.ofNat (f.di.toNat / 256 ^ 0 % 256) :: UInt8.ofNat (f.ec.toNat / 256 ^ 1 % 256) :: UInt8.ofNat (f.ec.toNat / 256 ^ 0 % 256) :: UInt8.ofNat f.ea.toNat :: UInt8.ofNat (f.ei.toNat / 256 ^ 1 % 256) :: UInt8.ofNat (f.ei.toNat / 256 ^ 0 % 256) :: UInt8.ofNat (f.h.toNat / 256 ^ 1 % 256) :: UInt8.ofNat (f.h.toNat / 256 ^ 0 % 256) :: tailB f := by
  simp only [bodyB, headB, epB, Oct.bts, List.cons_append, List.nil_append]
theorem tail_3 {f : Fr} (h : f.k = 3) : tailB f = UInt8.ofNat (f.hc.toNat / 256 ^ 1 % 256) :: UInt8.ofNat (f.hc.toNat / 256 ^ 0 % 256) :: UInt8.ofNat f.ha.toNat :: UInt8.ofNat (f.hi.toNat / 256 ^ 1 % 256) :: UInt8.ofNat (f.hi.toNat / 256 ^ 0 % 256) :: UInt8.ofNat (if f.w then 1 else 0) :: [] := by
  unfold tailB
  rw [if_pos h]
  simp only [epB, Oct.bts, List.cons_append, List.nil_append]
theorem tail_4 {f : Fr} (h : f.k = 4) : tailB f = UInt8.ofNat f.b.toNat :: UInt8.ofNat (f.vi.toNat / 256 ^ 1 % 256) :: UInt8.ofNat (f.vi.toNat / 256 ^ 0 % 256) :: UInt8.ofNat (f.vs.toNat / 256 ^ 3 % 256) :: UInt8.ofNat (f.vs.toNat / 256 ^ 2 % 256) :: UInt8.ofNat (f.vs.toNat / 256 ^ 1 % 256) :: UInt8.ofNat (f.vs.toNat / 256 ^ 0 % 256) :: UInt8.ofNat f.p.toNat :: UInt8.ofNat f.q.toNat :: f.t.data.toList := by
  unfold tailB
  rw [if_neg (by omega), if_pos h]
  simp only [Oct.bts, List.cons_append, List.nil_append]
theorem tail_0 {f : Fr} (h3 : ¬ f.k = 3) (h4 : ¬ f.k = 4) : tailB f = [] := by
  unfold tailB
  rw [if_neg h3, if_neg h4]
theorem body_len {f : Fr} (h : rightP f) : ((bodyB f).length : Int) + 2 = sizeF f := by
  have := sizeF_tail h
  rw [body_eq]
  simp only [List.length_cons]
  omega
theorem enc_size {f : Fr} (h : rightP f) : ((encF f).size : Int) = sizeF f := by
  unfold encF
  rw [if_pos h, Crc.sealed_size, str_size]
  have := body_len h
  omega
/-- A frame's bytes ahead of the sum. -/
theorem enc_in {f : Fr} (h : rightP f) : (encF f).extract 0 ((encF f).size - 2) = ⟨(bodyB f).toArray⟩ := by
  have h1 := Crc.open_sealed ⟨(bodyB f).toArray⟩
  have h2 := Crc.sealed_zero ⟨(bodyB f).toArray⟩
  have h3 := Crc.sealed_size ⟨(bodyB f).toArray⟩
  rw [Crc.opened_yes _ (by omega) h2] at h1
  unfold encF
  rw [if_pos h]
  exact (Prod.mk.inj h1).1
theorem nb_in {f : Fr} (h : rightP f) (a n : Nat) (hn : a + n ≤ (bodyB f).length) : nb (encF f) a n = nb ⟨(bodyB f).toArray⟩ a n := by
  rw [← enc_in h, nb_ext]
  have h1 := enc_size h
  have h2 := body_len h
  omega
theorem enc_b0 {f : Fr} (h : rightP f) : ((nb (encF f) 0 1 : Nat) : Int) = f.k := by
  rw [nb_in h 0 1 (by rw [body_eq]; simp), nb_list, body_eq]
  simp only [List.drop_zero, List.take_succ_cons, List.take_zero]
  exact nm1 f.k (by have := h.1; omega)
theorem enc_b1 {f : Fr} (h : rightP f) : ((nb (encF f) 1 1 : Nat) : Int) = sizeF f := by
  rw [nb_in h 1 1 (by rw [body_eq]; simp), nb_list, body_eq]
  simp only [List.drop_succ_cons, List.drop_zero, List.take_succ_cons, List.take_zero]
  exact nm1 (sizeF f) (by have := right_bd h; omega)
theorem fr_ext {f g : Fr} (h : f.k = g.k ∧ f.s = g.s ∧ f.d = g.d ∧ f.si = g.si ∧ f.di = g.di ∧ f.ec = g.ec ∧ f.ea = g.ea ∧ f.ei = g.ei ∧ f.h = g.h ∧ f.hc = g.hc ∧ f.ha = g.ha ∧ f.hi = g.hi ∧ f.w = g.w ∧ f.b = g.b ∧ f.vi = g.vi ∧ f.vs = g.vs ∧ f.p = g.p ∧ f.q = g.q ∧ f.t = g.t) : f = g := by
  cases f
  cases g
  simpa only [Fr.mk.injEq] using h
theorem frF_hc (s : ByteArray) : (frF s).hc = if nb s 0 1 = 3 then ((nb s 15 2 : Nat) : Int) else 0 := rfl
theorem frF_ha (s : ByteArray) : (frF s).ha = if nb s 0 1 = 3 then ((nb s 17 1 : Nat) : Int) else 0 := rfl
theorem frF_hi (s : ByteArray) : (frF s).hi = if nb s 0 1 = 3 then ((nb s 18 2 : Nat) : Int) else 0 := rfl
theorem frF_b (s : ByteArray) : (frF s).b = if nb s 0 1 = 4 then ((nb s 15 1 : Nat) : Int) else 0 := rfl
theorem frF_vi (s : ByteArray) : (frF s).vi = if nb s 0 1 = 4 then ((nb s 16 2 : Nat) : Int) else 0 := rfl
theorem frF_vs (s : ByteArray) : (frF s).vs = if nb s 0 1 = 4 then ((nb s 18 4 : Nat) : Int) else 0 := rfl
theorem frF_p (s : ByteArray) : (frF s).p = if nb s 0 1 = 4 then ((nb s 22 1 : Nat) : Int) else 0 := rfl
theorem frF_q (s : ByteArray) : (frF s).q = if nb s 0 1 = 4 then ((nb s 23 1 : Nat) : Int) else 0 := rfl
theorem frF_w (s : ByteArray) : (frF s).w = decide (nb s 0 1 = 3 ∧ nb s 20 1 = 1) := rfl
theorem frF_t (s : ByteArray) : (frF s).t = if nb s 0 1 = 4 then s.extract 24 s.size else ⟨#[]⟩ := rfl
theorem frF_body {f : Fr} (h : rightP f) (hok : f.ok) : frF ⟨(bodyB f).toArray⟩ = f := by
  have h0 : nb ⟨(bodyB f).toArray⟩ 0 1 = f.k.toNat := by
    rw [nb_list, body_eq]
    have := nm1 f.k (by have := h.1; omega)
    simp only [List.drop_zero, List.take_succ_cons, List.take_zero]
    omega
  have hk := h.1
  obtain ⟨-, r4, -, rb1, rb2⟩ := h
  refine fr_ext ⟨?_, ?_, ?_, ?_, ?_, ?_, ?_, ?_, ?_, ?_, ?_, ?_, ?_, ?_, ?_, ?_, ?_, ?_, ?_⟩
  · show ((nb ⟨(bodyB f).toArray⟩ 0 1 : Nat) : Int) = _
    rw [h0]
    omega
  · show ((nb ⟨(bodyB f).toArray⟩ 2 1 : Nat) : Int) = _
    rw [nb_list, body_eq]
    simp only [List.drop_succ_cons, List.drop_zero, List.take_succ_cons, List.take_zero]
    exact nm1 f.s hok.s
  · show ((nb ⟨(bodyB f).toArray⟩ 5 1 : Nat) : Int) = _
    rw [nb_list, body_eq]
    simp only [List.drop_succ_cons, List.drop_zero, List.take_succ_cons, List.take_zero]
    exact nm1 f.d hok.d
  · show ((nb ⟨(bodyB f).toArray⟩ 3 2 : Nat) : Int) = _
    rw [nb_list, body_eq]
    simp only [List.drop_succ_cons, List.drop_zero, List.take_succ_cons, List.take_zero]
    exact nm2 f.si hok.si
  · show ((nb ⟨(bodyB f).toArray⟩ 6 2 : Nat) : Int) = _
    rw [nb_list, body_eq]
    simp only [List.drop_succ_cons, List.drop_zero, List.take_succ_cons, List.take_zero]
    exact nm2 f.di hok.di
  · show ((nb ⟨(bodyB f).toArray⟩ 8 2 : Nat) : Int) = _
    rw [nb_list, body_eq]
    simp only [List.drop_succ_cons, List.drop_zero, List.take_succ_cons, List.take_zero]
    exact nm2 f.ec hok.ec
  · show ((nb ⟨(bodyB f).toArray⟩ 10 1 : Nat) : Int) = _
    rw [nb_list, body_eq]
    simp only [List.drop_succ_cons, List.drop_zero, List.take_succ_cons, List.take_zero]
    exact nm1 f.ea hok.ea
  · show ((nb ⟨(bodyB f).toArray⟩ 11 2 : Nat) : Int) = _
    rw [nb_list, body_eq]
    simp only [List.drop_succ_cons, List.drop_zero, List.take_succ_cons, List.take_zero]
    exact nm2 f.ei hok.ei
  · show ((nb ⟨(bodyB f).toArray⟩ 13 2 : Nat) : Int) = _
    rw [nb_list, body_eq]
    simp only [List.drop_succ_cons, List.drop_zero, List.take_succ_cons, List.take_zero]
    exact nm2 f.h hok.h
  · rw [frF_hc, h0]
    by_cases e : f.k = 3
    · rw [if_pos (by omega), nb_list, body_eq, tail_3 e]
      simp only [List.drop_succ_cons, List.drop_zero, List.take_succ_cons, List.take_zero]
      exact nm2 f.hc hok.hc
    · rw [if_neg (by omega)]
      exact ((rb1 e).1).symm
  · rw [frF_ha, h0]
    by_cases e : f.k = 3
    · rw [if_pos (by omega), nb_list, body_eq, tail_3 e]
      simp only [List.drop_succ_cons, List.drop_zero, List.take_succ_cons, List.take_zero]
      exact nm1 f.ha hok.ha
    · rw [if_neg (by omega)]
      exact ((rb1 e).2.1).symm
  · rw [frF_hi, h0]
    by_cases e : f.k = 3
    · rw [if_pos (by omega), nb_list, body_eq, tail_3 e]
      simp only [List.drop_succ_cons, List.drop_zero, List.take_succ_cons, List.take_zero]
      exact nm2 f.hi hok.hi
    · rw [if_neg (by omega)]
      exact ((rb1 e).2.2.1).symm
  · rw [frF_w, h0]
    by_cases e : f.k = 3
    · rw [nb_list, body_eq, tail_3 e]
      simp only [List.drop_succ_cons, List.drop_zero, List.take_succ_cons, List.take_zero]
      show decide (f.k.toNat = 3 ∧ Oct.num [UInt8.ofNat (if f.w then 1 else 0)] = 1) = f.w
      have e3 : f.k.toNat = 3 := by omega
      rw [num1, e3]
      cases f.w <;> decide
    · rw [(rb1 e).2.2.2]
      apply decide_eq_false
      omega
  · rw [frF_b, h0]
    by_cases e : f.k = 4
    · rw [if_pos (by omega), nb_list, body_eq, tail_4 e]
      simp only [List.drop_succ_cons, List.drop_zero, List.take_succ_cons, List.take_zero]
      exact nm1 f.b hok.b
    · rw [if_neg (by omega)]
      exact ((by rw [if_neg e] at rb2; exact rb2.1 : f.b = 0)).symm
  · rw [frF_vi, h0]
    by_cases e : f.k = 4
    · rw [if_pos (by omega), nb_list, body_eq, tail_4 e]
      simp only [List.drop_succ_cons, List.drop_zero, List.take_succ_cons, List.take_zero]
      exact nm2 f.vi hok.vi
    · rw [if_neg (by omega)]
      exact ((by rw [if_neg e] at rb2; exact rb2.2.1 : f.vi = 0)).symm
  · rw [frF_vs, h0]
    by_cases e : f.k = 4
    · rw [if_pos (by omega), nb_list, body_eq, tail_4 e]
      simp only [List.drop_succ_cons, List.drop_zero, List.take_succ_cons, List.take_zero]
      exact nm4 f.vs hok.vs
    · rw [if_neg (by omega)]
      exact ((by rw [if_neg e] at rb2; exact rb2.2.2.1 : f.vs = 0)).symm
  · rw [frF_p, h0]
    by_cases e : f.k = 4
    · rw [if_pos (by omega), nb_list, body_eq, tail_4 e]
      simp only [List.drop_succ_cons, List.drop_zero, List.take_succ_cons, List.take_zero]
      exact nm1 f.p hok.p
    · rw [if_neg (by omega)]
      exact ((by rw [if_neg e] at rb2; exact rb2.2.2.2.1 : f.p = 0)).symm
  · rw [frF_q, h0]
    by_cases e : f.k = 4
    · rw [if_pos (by omega), nb_list, body_eq, tail_4 e]
      simp only [List.drop_succ_cons, List.drop_zero, List.take_succ_cons, List.take_zero]
      exact nm1 f.q hok.q
    · rw [if_neg (by omega)]
      exact ((by rw [if_neg e] at rb2; exact rb2.2.2.2.2.1 : f.q = 0)).symm
  · rw [frF_t, h0]
    by_cases e : f.k = 4
    · rw [if_pos (by omega), str_size, body_eq, tail_4 e]
      apply Crc.ext_list
      rw [ByteArray.data_extract, Array.toList_extract, List.extract_eq_take_drop]
      rw [List.take_of_length_le (by simp)]
      simp only [List.drop_succ_cons, List.drop_zero]
    · rw [if_neg (by omega)]
      rw [if_neg e] at rb2
      exact (bare_t rb2.2.2.2.2.2).symm
theorem okW_body {f : Fr} (h : rightP f) : okW ⟨(bodyB f).toArray⟩ = true := by
  unfold okW
  refine decide_eq_true fun e => ?_
  have h0 : ((nb ⟨(bodyB f).toArray⟩ 0 1 : Nat) : Int) = f.k := by
    rw [nb_list, body_eq]
    simp only [List.drop_zero, List.take_succ_cons, List.take_zero]
    exact nm1 f.k (by have := h.1; omega)
  rw [nb_list, body_eq, tail_3 (show f.k = 3 by omega)]
  simp only [List.drop_succ_cons, List.drop_zero, List.take_succ_cons, List.take_zero]
  show Oct.num [UInt8.ofNat (if f.w then 1 else 0)] < 2
  rw [num1]
  cases f.w <;> decide
/-- What was encoded is decoded. -/
theorem dec_enc {f : Fr} (h : rightP f) (hok : f.ok) : decF (encF f) = (f, 0) := by
  have h1 := enc_size h
  have h2 := right_bd h
  have h3 := enc_b1 h
  have h4 := enc_b0 h
  have hk := h.1
  have ht := sizeF_tail h
  unfold decF
  rw [if_neg (by omega), if_neg (by rw [show encF f = Crc.sealed ⟨(bodyB f).toArray⟩ by unfold encF; rw [if_pos h], Crc.open_sealed]; simp), if_neg (by omega), h4, if_neg, enc_in h, okW_body h, frF_body h hok, if_neg (by simp; exact h)]
  rw [h1]
  by_cases e3 : f.k = 3
  · rw [tail_3 e3] at ht
    rw [e3]
    simp only [List.length_cons, List.length_nil] at ht
    have : (shapeF 3).2.2.1 = 23 ∧ (shapeF 3).2.2.2.1 = 23 := by decide
    omega
  · by_cases e4 : f.k = 4
    · rw [tail_4 e4] at ht
      have hb := h.2.2.2.2
      rw [if_pos e4] at hb
      rw [e4]
      have hl : f.t.data.toList.length = f.t.size := Array.length_toList
      simp only [List.length_cons, hl] at ht
      have : (shapeF 4).2.2.1 = 27 ∧ (shapeF 4).2.2.2.1 = 42 := by decide
      omega
    · rw [tail_0 e3 e4] at ht
      simp only [List.length_nil] at ht
      have : (shapeF f.k).2.2.1 = 17 ∧ (shapeF f.k).2.2.2.1 = 17 := by
        rcases (by omega : f.k = 1 ∨ f.k = 2 ∨ f.k = 5) with e | e | e <;> (rw [e]; decide)
      omega
end Go.Proofs.YtmehafolnpkmhaaDoor
