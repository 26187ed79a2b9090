/- The store's law of places apart. -/
import Derived.Test.YtpkgpffodkfncaaStoWalks
import Derived.Test.YtpkgpffodkfncaaOpen
import Derived.OpenShut
import Derived.IntWalk
import Derived.Deep.QuietTactic
namespace Go.Proofs.Ytpkgpffodkfncaa
open Go.RowKit
theorem stoRead_lit (b g cap : Nat) (d : Sto) (n : Nat) (m : Int) (hm : m = (n : Int)) (hfit : n ≤ d.l.length) (s : ByteArray) (hs : s = ⟨(d.l.take n).toArray⟩) (w : World) (h : StoAt w b g cap d) :
    Calls Try.prog 47 #[.pointer (some ⟨b, 0, none⟩), .int .i64 0, .int .i64 m] w fun e w' => e = .returned (.tuple #[.string s, .bool true]) ∧ w = w' := by
  subst hm
  subst hs
  exact stoRead_in b g cap d 0 n (by omega) w h
def sab : ByteArray := ⟨#[97, 98]⟩
set_option maxRecDepth 100000 in
theorem sawake_any (w : World) :
    Calls Try.prog 44 #[] w fun e w' => e = .returned (.bool true) ∧ Below w.heap.size w w' := by
  go_enter Try.func44, Try.ntmps44
  go_wp2_with fail
  refine (stoNew_any 3 (by omega) w).mono ?_
  rintro e w1 ⟨rfl, hS1, hb1⟩
  go_wp2_with fail
  refine (stoArm_any _ _ _ _ 1 (by omega) w1 hS1).mono ?_
  rintro e w2 ⟨rfl, hS2, hk2⟩
  go_wp2_with fail
  refine (stoWrite_torn _ _ _ _ 0 sab (by decide +kernel) (by decide) rfl rfl (by decide) w2 hS2).mono ?_
  rintro e w3 ⟨rfl, hS3, hk3⟩
  go_wp2_with fail
  refine (stoRead_lit _ _ _ _ 2 2 rfl (by decide +kernel) ⟨#[97, 0]⟩ (by decide +kernel) w3 hS3).mono ?_
  rintro e w4 ⟨rfl, rfl⟩
  go_wp2_with fail
  refine (stoPower_any _ _ _ _ w3 hS3).mono ?_
  rintro e w4 ⟨rfl, rfl⟩
  go_wp2
  go_ret
  exact ⟨rfl, hb1.trans ((hk2.trans hk3).below hb1.size (fun k hk he => by omega))⟩
theorem putAt_comm (l : List UInt8) (a b : Nat) (s t : List UInt8) (h1 : a + s.length ≤ b) (h2 : b + t.length ≤ l.length) : putAt (putAt l a s) b t = putAt (putAt l b t) a s := by
  have la := putAt_length l a s (by omega)
  have lb := putAt_length l b t (by omega)
  have l1 := putAt_length (putAt l a s) b t (by omega)
  have l2 := putAt_length (putAt l b t) a s (by omega)
  have e : ∀ j, (putAt (putAt l a s) b t).getD j 0 = (putAt (putAt l b t) a s).getD j 0 := by
    intro j
    rw [putAt_get _ _ _ (by omega), putAt_get _ _ _ (by omega), putAt_get _ _ _ (by omega), putAt_get _ _ _ (by omega)]
    by_cases c1 : b ≤ j ∧ j < b + t.length
    · rw [if_pos c1, if_neg (by omega), if_pos c1]
    · rw [if_neg c1, if_neg c1]
  apply List.ext_getElem (by omega)
  intro j g1 g2
  have := e j
  simpa [List.getD_eq_getElem?_getD, List.getElem?_eq_getElem g1, List.getElem?_eq_getElem g2] using this
theorem putAt_extract (l : List UInt8) (a : Nat) (s : ByteArray) (h : a + s.size ≤ l.length) : (⟨(putAt l a s.data.toList).toArray⟩ : ByteArray).extract a (a + s.size) = s := by
  apply ext_bytes
  rw [ByteArray.data_extract, Array.toList_extract]
  have h1 : (l.take a).length = a := by rw [List.length_take]; omega
  have h2 : s.data.toList.length = s.size := by simp
  simp only [putAt, List.extract, List.append_assoc]
  rw [List.drop_append_of_le_length (by omega), List.drop_of_length_le (by omega), List.nil_append, show a + s.size - a = s.data.toList.length from by omega, List.take_left']
  rfl
theorem pair_of {H : Type} {enc : TypeId × Value → H} {W : World} {v : Value} {d : DataW H} {p : List MemPlace}
    (h : DataW.Trod enc Try.prog W 0 (fun _ => true) true 58 v d p) (o : Value.okWide Try.prog W .any 0 58 v) :
    ∃ x y : Nat, v = .agg #[.int .u8 (x : Int), .int .u8 (y : Int)] ∧ x < 256 ∧ y < 256 := by
  have hv : ∃ cs, v = .agg cs := by
    simp only [Value.okWide, Try.underlying58] at o
    obtain ⟨cs, h1, -⟩ := o
    exact ⟨cs, h1⟩
  obtain ⟨cs, rfl⟩ := hv
  obtain ⟨m, hm⟩ := h
  obtain ⟨xs, m', -, -, hl, hx, hi⟩ := DataW.trod_array Try.underlying58 hm
  have hc1 : Try.prog.cellsOf 5 = 1 := by kernel_rfl
  have hc2 : Try.prog.cellsOf 58 = 2 := by kernel_rfl
  have hcs : cs.toList.length = 2 := by rw [← hc2]; simpa [Value.cells] using hl
  obtain ⟨l⟩ := cs
  match l, hcs with
  | [u, v'], _ =>
    match xs, hx with
    | [p0, p1], _ =>
      have i0 := hi 0 (by omega)
      have i1 := hi 1 (by omega)
      rw [hc1] at i0 i1
      obtain ⟨z0, e0, -, w0⟩ := DataW.trod_int Try.underlying5 i0
      obtain ⟨z1, e1, -, w1⟩ := DataW.trod_int Try.underlying5 i1
      have e0' : u = .int .u8 z0 := by simpa [Value.cells] using e0
      have e1' : v' = .int .u8 z1 := by simpa [Value.cells] using e1
      have b0 := bounds_u8 w0
      have b1 := bounds_u8 w1
      refine ⟨z0.toNat, z1.toNat, ?_, by omega, by omega⟩
      rw [e0', e1', Int.toNat_of_nonneg b0.1, Int.toNat_of_nonneg b1.1]
def zer : Sto := ⟨List.replicate 200 0, false, false, 0, 0⟩
set_option maxRecDepth 100000 in
set_option maxHeartbeats 4000000 in
theorem storeApart_walk {H : Type} {enc : TypeId × Value → H} (s : ByteArray) (hs : s.size ≤ 140737488351232) (t : ByteArray) (ht : t.size ≤ 140737488351232) (v : Value) (d : DataW H) (p : List MemPlace) {w : World}
    (h : DataW.Trod enc Try.prog w 0 (fun _ => true) true 58 v d p) (o : Value.okWide Try.prog w .any 0 58 v) (_ : ∀ x ∈ d.weights Try.prog 58, x ≤ 140737488351232) (_ : World) :
    Calls Try.prog 11 #[.string s, .string t, v] w fun e w' => e = .returned (.bool true) ∧ Below w.heap.size w w' := by
  obtain ⟨x, y, rfl, hx, hy⟩ := pair_of h o
  clear h o
  have hX : ObjAt (w.alloc (.cells #[.int .u8 (x : Int), .int .u8 (y : Int)] 58)) w.heap.size #[.int .u8 (x : Int), .int .u8 (y : Int)] 58 := ObjAt.new _ _ _
  have hbx : Below w.heap.size w (w.alloc (.cells #[.int .u8 (x : Int), .int .u8 (y : Int)] 58)) := (Below.refl _ w).alloc (Nat.le_refl _) _
  by_cases hguard : s.size ≤ 50 ∧ t.size ≤ 50
  · obtain ⟨hs5, ht5⟩ := hguard
    have hs5i : (s.size : Int) ≤ 50 := by omega
    have ht5i : (t.size : Int) ≤ 50 := by omega
    go_enter Try.func11, Try.ntmps11
    go_wp2_with fail
    refine (sawake_any _).mono ?_
    rintro e w1 ⟨rfl, hb1⟩
    have hX1 := below_obj hb1 hX
    have hsz : w.heap.size ≤ w1.heap.size := by have := hb1.size; simp at this; omega
    have hb01 : Below w.heap.size w w1 := hbx.trans (hb1.mono (by simp))
    have d0 : w1.cell? ⟨w.heap.size, 0, none⟩ = some (.int .u8 (x : Int)) := hX1.cell 0
    have d1 : w1.cell? ⟨w.heap.size, 1, none⟩ = some (.int .u8 (y : Int)) := hX1.cell 1
    obtain ⟨a, ha⟩ : ∃ a : Nat, a = x % 50 := ⟨_, rfl⟩
    obtain ⟨b, hb⟩ : ∃ b : Nat, b = 100 + y % 50 := ⟨_, rfl⟩
    have hai : (x : Int) % 50 = (a : Int) := by omega
    have hbi : (100 : Int) + (y : Int) % 50 = (b : Int) := by omega
    have hat : Int.tmod (x : Int) 50 = (a : Int) := by rw [Int.tmod_eq_emod_of_nonneg (by omega)]; exact hai
    have hbt : Int.tmod (y : Int) 50 = (y : Int) % 50 := Int.tmod_eq_emod_of_nonneg (by omega)
    have hbw : IntKind.i64.wrap (b : Int) = (b : Int) := IntWalk.i64_in _ (by omega)
    have hw1 : IntKind.i64.wrap (a : Int) = (a : Int) := IntWalk.i64_in _ (by omega)
    have hw2 : IntKind.i64.wrap ((y : Int) % 50) = (y : Int) % 50 := IntWalk.i64_in _ (by omega)
    have ha5 : a < 50 := by omega
    have hb5 : 100 ≤ b ∧ b < 150 := by omega
    clear ha hb
    go_wp2
    go_quiet (fail)
    have hb02 : Below w.heap.size w (w1.drewN nq) := ⟨hb01.os, hb01.tape, hb01.output, hb01.size, hb01.block⟩
    clear d0 d1 hX1 hb1 hb01 hX hbx hsz
    generalize w1.drewN nq = w2 at hb02 ⊢
    go_wp2_with fail
    refine (stoNew_any 200 (by omega) w2).mono ?_
    rintro e w3 ⟨rfl, hS3, hb3⟩
    have hD3 : StoAt w3 (w2.heap.size + 1) w2.heap.size 200 zer := hS3
    clear hS3
    have hl3 := hD3.obj.lt
    go_wp2_with fail
    refine (stoNew_any 200 (by omega) w3).mono ?_
    rintro e w4 ⟨rfl, hS4, hb4⟩
    have hE4 : StoAt w4 (w3.heap.size + 1) w3.heap.size 200 zer := hS4
    have hD4 := hD3.keep (Keep.of_below (S := fun _ => False) hb4) (by simp) (by simp)
    clear hS4 hD3
    have hb2s := hb02.size
    have hb03 := hb02.trans (hb3.mono hb2s)
    have hb04 := hb03.trans (hb4.mono hb03.size)
    have hzl : zer.l.length = 200 := by simp [zer]
    clear hb02 hb3 hb4 hb03
    go_wp2_with fail
    refine (stoWrite_whole _ _ 200 zer a s (by omega) (by omega) rfl rfl (by decide) w4 hD4).mono ?_
    rintro e w5 ⟨rfl, hD5, hk5⟩
    have hE5 := hE4.keep hk5 (by omega) (by omega)
    clear hD4 hE4
    obtain ⟨D1, hD1⟩ : ∃ D, D = zer.put a s.size s := ⟨_, rfl⟩
    rw [← hD1] at hD5
    have hD1l : D1.l = putAt zer.l a s.data.toList := by rw [hD1]; simp only [Sto.put, ByteArray.extract_zero_size]
    have hD1n : D1.l.length = 200 := by rw [hD1l, putAt_length _ _ _ (by simp; omega)]; exact hzl
    have hD1w : D1.wrote = s.size := by rw [hD1]; simp [Sto.put, zer]
    have hD1d : D1.dark = false := by rw [hD1]; rfl
    have hD1a : D1.armed = false := by rw [hD1]; rfl
    have HD1 := Lib.hid (And.intro hD1l (And.intro hD1w (And.intro hD1d hD1a)))
    clear hD1 hD1l hD1w hD1d hD1a
    go_wp2_with fail
    refine (stoWrite_whole _ _ 200 D1 b t (by omega) (by omega) HD1.out.2.2.1 HD1.out.2.2.2 (by rw [HD1.out.2.1]; omega) w5 hD5).mono ?_
    rintro e w6 ⟨rfl, hD6, hk6⟩
    have hE6 := hE5.keep hk6 (by omega) (by omega)
    clear hD5 hE5
    obtain ⟨D2, hD2⟩ : ∃ D, D = D1.put b t.size t := ⟨_, rfl⟩
    rw [← hD2] at hD6
    have hD2l : D2.l = putAt (putAt zer.l a s.data.toList) b t.data.toList := by rw [hD2]; simp only [Sto.put, ByteArray.extract_zero_size, HD1.out.1]
    have hD2w : (D2.wrote : Int) = (s.size : Int) + (t.size : Int) := by rw [hD2]; simp [Sto.put, HD1.out.2.1]
    have HD2 := Lib.hid hD2l
    have HD2w := Lib.hid hD2w
    clear hD2 hD2l hD2w
    go_wp2_with fail
    refine (stoWrite_whole _ _ 200 zer b t (by omega) (by omega) rfl rfl (by decide) w6 hE6).mono ?_
    rintro e w7 ⟨rfl, hE7, hk7⟩
    have hD7 := hD6.keep hk7 (by omega) (by omega)
    clear hD6 hE6
    obtain ⟨E1, hE1⟩ : ∃ D, D = zer.put b t.size t := ⟨_, rfl⟩
    rw [← hE1] at hE7
    have hE1l : E1.l = putAt zer.l b t.data.toList := by rw [hE1]; simp only [Sto.put, ByteArray.extract_zero_size]
    have hE1n : E1.l.length = 200 := by rw [hE1l, putAt_length _ _ _ (by simp; omega)]; exact hzl
    have hE1w : E1.wrote = t.size := by rw [hE1]; simp [Sto.put, zer]
    have hE1d : E1.dark = false := by rw [hE1]; rfl
    have hE1a : E1.armed = false := by rw [hE1]; rfl
    have HE1 := Lib.hid (And.intro hE1l (And.intro hE1w (And.intro hE1d hE1a)))
    clear hE1 hE1l hE1w hE1d hE1a
    go_wp2_with fail
    refine (stoWrite_whole _ _ 200 E1 a s (by omega) (by omega) HE1.out.2.2.1 HE1.out.2.2.2 (by rw [HE1.out.2.1]; omega) w7 hE7).mono ?_
    rintro e w8 ⟨rfl, hE8, hk8⟩
    have hD8 := hD7.keep hk8 (by omega) (by omega)
    clear hD7 hE7
    obtain ⟨E2, hE2⟩ : ∃ D, D = E1.put a s.size s := ⟨_, rfl⟩
    rw [← hE2] at hE8
    have hE2l : E2.l = putAt (putAt zer.l b t.data.toList) a s.data.toList := by rw [hE2]; simp only [Sto.put, ByteArray.extract_zero_size, HE1.out.1]
    have hss : s.data.toList.length = s.size := by simp
    have htt : t.data.toList.length = t.size := by simp
    have hcm : D2.l = E2.l := by rw [HD2.out, hE2l]; exact putAt_comm _ _ _ _ _ (by omega) (by omega)
    have hD2n : D2.l.length = 200 := by rw [HD2.out, putAt_length _ _ _ (by rw [putAt_length _ _ _ (by omega)]; omega), putAt_length _ _ _ (by omega)]; exact hzl
    obtain ⟨U, hU⟩ : ∃ U : ByteArray, U = ⟨D2.l.toArray⟩ := ⟨_, rfl⟩
    have hU1 : U.extract a (a + s.size) = s := by rw [hU, hcm, hE2l]; exact putAt_extract _ _ _ (by rw [putAt_length _ _ _ (by omega)]; omega)
    have hU2 : U.extract b (b + t.size) = t := by rw [hU, HD2.out]; exact putAt_extract _ _ _ (by rw [putAt_length _ _ _ (by omega)]; omega)
    have hUs : U.size = 200 := by rw [hU]; show D2.l.toArray.size = 200; simpa using hD2n
    have hR1 : U = ⟨(D2.l.take 200).toArray⟩ := by rw [hU, List.take_of_length_le (by omega)]
    have hR2 : U = ⟨(E2.l.take 200).toArray⟩ := by rw [← hcm]; exact hR1
    have HR1 := Lib.hid hR1
    have HR2 := Lib.hid hR2
    have hE2n : 200 ≤ E2.l.length := by rw [← hcm]; omega
    have hb08 : Below w.heap.size w w8 := hb04.trans ((hk5.below (B := w.heap.size) hb04.size (fun k hk he => by omega)).trans ((hk6.below (by have := hk5.size; have := hb04.size; omega) (fun k hk he => by omega)).trans ((hk7.below (by have := hk5.size; have := hk6.size; have := hb04.size; omega) (fun k hk he => by omega)).trans (hk8.below (by have := hk5.size; have := hk6.size; have := hk7.size; have := hb04.size; omega) (fun k hk he => by omega)))))
    clear hk5 hk6 hk7 hk8 hR1 hR2 hU hcm hE2l hE2 hD1n hE1n hb04
    go_wp2_with fail
    refine (stoRead_lit _ _ 200 D2 200 200 rfl (by omega) U HR1.out w8 hD8).mono ?_
    rintro e w9 ⟨rfl, rfl⟩
    go_wp2_with fail
    refine (stoRead_lit _ _ 200 E2 200 200 rfl hE2n U HR2.out w8 hE8).mono ?_
    rintro e w9 ⟨rfl, rfl⟩
    have q1 : a + s.size ≤ U.size := by omega
    have q2 : b + t.size ≤ U.size := by omega
    have q3 : (a : Int) + (s.size : Int) ≤ (U.size : Int) := by omega
    have q4 : (b : Int) + (t.size : Int) ≤ (U.size : Int) := by omega
    have q5 : ((a : Int) + (s.size : Int)).toNat = a + s.size := by omega
    have q6 : ((b : Int) + (t.size : Int)).toNat = b + t.size := by omega
    have q7 : (a : Int) ≤ (a : Int) + (s.size : Int) := by omega
    have q8 : (b : Int) ≤ (b : Int) + (t.size : Int) := by omega
    clear hUs
    go_wp2_with fail
    refine (stoWrote_any _ _ 200 D2 w8 hD8).mono ?_
    rintro e w9 ⟨rfl, rfl⟩
    rw [HD2w.out]
    go_wp2
    go_ret
    exact ⟨rfl, hb08⟩
  · have hg : ¬ ((s.size : Int) ≤ 50 ∧ (t.size : Int) ≤ 50) := by omega
    go_enter Try.func11, Try.ntmps11
    go_wp2_with fail
    refine (sawake_any _).mono ?_
    rintro e w1 ⟨rfl, hb1⟩
    have hb01 : Below w.heap.size w w1 := hbx.trans (hb1.mono (by simp))
    by_cases h1 : (s.size : Int) ≤ 50
    · have h2 : ¬ ((t.size : Int) ≤ 50) := fun h => hg ⟨h1, h⟩
      clear hg hguard
      go_wp2
      go_ret
      exact ⟨rfl, hb01⟩
    · clear hg hguard
      go_wp2
      go_ret
      exact ⟨rfl, hb01⟩
end Go.Proofs.Ytpkgpffodkfncaa
