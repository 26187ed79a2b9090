/- The store's law of torn writes: the walk. -/
import Derived.Test.YtpkgpffodkfncaaStoTear
namespace Go.Proofs.Ytpkgpffodkfncaa
open Go.RowKit
theorem StoAt.drewN {w : World} {b g cap : Nat} {d : Sto} (h : StoAt w b g cap d) (n : Nat) : StoAt (w.drewN n) b g cap d := ⟨h.obj, h.row, h.ne, h.le, h.max, h.most⟩
theorem stoPowerX (b g cap : Nat) (d : Sto) (dk : Bool) (hd : d.dark = dk) (w : World) (h : StoAt w b g cap d) :
    Calls Try.prog 51 #[.pointer (some ⟨b, 0, none⟩)] w fun e w' => e = .returned (.bool (!dk)) ∧ w' = w := by
  subst hd
  exact stoPower_any b g cap d w h
theorem stoWroteX (b g cap : Nat) (d : Sto) (k : Nat) (hd : d.wrote = k) (w : World) (h : StoAt w b g cap d) :
    Calls Try.prog 48 #[.pointer (some ⟨b, 0, none⟩)] w fun e w' => e = .returned (.int .i64 (k : Int)) ∧ w' = w := by
  subst hd
  exact stoWrote_any b g cap d w h
set_option maxRecDepth 100000 in
set_option maxHeartbeats 8000000 in
theorem storeTears_walk {H : Type} {enc : TypeId × Value → H} (was : ByteArray) (hwas : was.size ≤ 140737488351232) (s : ByteArray) (hs : s.size ≤ 140737488351232) (v : Value) (d : DataW H) (p : List MemPlace) {w : World}
    (h : DataW.Trod enc Try.prog w 0 (fun _ => true) true 58 v d p) (o : Value.okWide Try.prog w .any 0 58 v) (_ : ∀ x ∈ d.weights Try.prog 58, x ≤ 140737488351232) (_ : World) :
    Calls Try.prog 12 #[.string was, .string s, v] w fun e w' => e = .returned (.bool true) ∧ Below w.heap.size w w' := by
  obtain ⟨x, y, rfl, hx, hy⟩ := pair_of h o
  clear h o
  have hX : ObjAt (w.alloc (.cells #[.int .u8 (x : Int), .int .u8 (y : Int)] 58)) w.heap.size #[.int .u8 (x : Int), .int .u8 (y : Int)] 58 := ObjAt.new _ _ _
  have hbx : Below w.heap.size w (w.alloc (.cells #[.int .u8 (x : Int), .int .u8 (y : Int)] 58)) := (Below.refl _ w).alloc (Nat.le_refl _) _
  go_enter Try.func12, Try.ntmps12
  go_wp2_with fail
  refine (sawake_any _).mono ?_
  rintro e w1 ⟨rfl, hb1⟩
  have hX1 := below_obj hb1 hX
  have hsz : w.heap.size ≤ w1.heap.size := by have := hb1.size; simp at this; omega
  have hb01 : Below w.heap.size w w1 := hbx.trans (hb1.mono (by simp))
  have d0 : w1.cell? ⟨w.heap.size, 0, none⟩ = some (.int .u8 (x : Int)) := hX1.cell 0
  have d1 : w1.cell? ⟨w.heap.size, 1, none⟩ = some (.int .u8 (y : Int)) := hX1.cell 1
  clear hX1 hb1 hX hbx
  by_cases g1 : (was.size : Int) ≤ 200
  · by_cases g2 : (s.size : Int) ≤ 100
    · by_cases g3 : (s.size : Int) ≤ was.size
      · obtain ⟨a, ha⟩ : ∃ a : Nat, a = x % (was.size - s.size + 1) := ⟨_, rfl⟩
        have haw : a ≤ was.size - s.size := by have := Nat.mod_lt x (show 0 < was.size - s.size + 1 by omega); omega
        have hai : (x : Int) % ((was.size : Int) - (s.size : Int) + 1) = (a : Int) := by
          rw [ha, show (was.size : Int) - (s.size : Int) + 1 = ((was.size - s.size + 1 : Nat) : Int) from by omega]
          exact (Int.natCast_emod _ _).symm
        have hat : Int.tmod (x : Int) ((was.size : Int) - (s.size : Int) + 1) = (a : Int) := by rw [Int.tmod_eq_emod_of_nonneg (by omega)]; exact hai
        have hnz : ¬ ((was.size : Int) - (s.size : Int) + 1 = 0) := by omega
        have hfit : a + s.size ≤ was.size := by omega
        obtain ⟨k, hk⟩ : ∃ k : Nat, k = min y s.size := ⟨_, rfl⟩
        have hki : min (y : Int) (s.size : Int) = (k : Int) := by omega
        have hkm : k ≤ s.size := by omega
        obtain ⟨d2, d3, d5, T, hdk⟩ := tear_of was s a y (by omega) hfit hy
        rw [← hk] at T
        clear ha hk
        have HT := Lib.hid T
        have hdk' := Lib.hid hdk
        clear T hdk
        go_wp2_with fail
        refine (stoOf_any was (by omega) w1).mono ?_
        rintro e w2 ⟨rfl, hS2, hb2⟩
        generalize grownCap w1 was.size 0 5 = cap at hS2
        have hb02 := hb01.trans (hb2.mono hsz)
        clear d0 d1 hb01 hb2
        go_wp2_with fail
        refine (stoArm_any _ _ _ _ (y : Int) (by omega) w2 hS2).mono ?_
        rintro e w3 ⟨rfl, hS3, hk3⟩
        have hD3 : StoAt w3 (w1.heap.size + 1) w1.heap.size cap ⟨was.data.toList, false, true, y, 0⟩ := hS3
        have hb03 : Below w.heap.size w w3 := hb02.trans (hk3.below hb02.size (fun k hk he => by omega))
        clear hS2 hS3 hk3 hb02
        by_cases hc : y < s.size
        · have hE : (if y < s.size then (12 : Int) else 0) = 12 := if_pos hc
          have hD : d2.dark = true := by rw [hdk'.out]; simpa using hc
          have HE := Lib.hid hE
          have HD := Lib.hid hD
          have hci : (y : Int) < s.size := by omega
          clear hE hD
          go_wp2_with fail
          refine (stoWrite_is _ _ _ _ a 12 d2 s (by rw [HT.out.e1, HE.out]) HT.out.s1 (by omega) (by omega) (by dsimp only; omega) (by dsimp only; omega) w3 hD3).mono ?_
          rintro e w4 ⟨rfl, hS4, hk4⟩
          have hb04 : Below w.heap.size w w4 := hb03.trans (hk4.below hb03.size (fun k hk he => by omega))
          clear hD3 hk4 hb03
          obtain ⟨U, hU⟩ : ∃ U : ByteArray, U = was.extract 0 a ++ s.extract 0 k ++ was.extract (a + k) was.size := ⟨_, rfl⟩
          have hUR := Lib.hid (show U = ⟨(d2.l.take was.size).toArray⟩ by rw [List.take_of_length_le (by rw [HT.out.n2]; omega), HT.out.l2, hU])
          have HU := Lib.hid hU
          clear hU
          go_wp2_with fail
          refine (stoRead_lit _ _ _ d2 was.size (was.size : Int) rfl (by rw [HT.out.n2]; omega) U hUR.out w4 hS4).mono ?_
          rintro e w5 ⟨rfl, rfl⟩
          have hUU : was.extract 0 a ++ s.extract 0 k ++ was.extract (a + k) was.size = U := HU.out.symm
          have z1 : (was.extract 0 a).size = a := by rw [ByteArray.size_extract]; omega
          have z2 : (s.extract 0 k).size = k := by rw [ByteArray.size_extract]; omega
          have z3 : (was.extract (a + k) was.size).size = was.size - (a + k) := by rw [ByteArray.size_extract]; omega
          have z4 : (was.extract 0 a ++ s.extract 0 k).size = a + k := by rw [ByteArray.size_append]; omega
          have q1 : IntKind.i64.wrap ((a : Int) + (k : Int)) = (a : Int) + (k : Int) := IntWalk.i64_in _ (by omega)
          have q2 : ((a : Int) + (k : Int)).toNat = a + k := by omega
          have q3 : (a : Int) + (k : Int) ≤ (was.size : Int) := by omega
          have q4 : (a : Int) ≤ (was.size : Int) := by omega
          have q5 : (k : Int) ≤ (s.size : Int) := by omega
          have q6 : (0 : Int) ≤ (a : Int) + (k : Int) := by omega
          have q7 : a ≤ was.size := by omega
          have q8 : k ≤ s.size := by omega
          have q9 : a + k ≤ was.size := by omega
          have qw : (d2.wrote : Int) = (k : Int) := by rw [HT.out.w2]
          have q10 : IntKind.i64.wrap (a : Int) = (a : Int) := IntWalk.i64_in _ (by omega)
          have q11 : IntKind.i64.wrap (k : Int) = (k : Int) := IntWalk.i64_in _ (by omega)
          have r1 : ¬ (9223372036854775807 < a + k) := by omega
          have r2 : ¬ (9223372036854775807 < was.size) := by omega
          go_wp2
          go_quiet (first | (go_at_call 51; refine Calls.quiet_of_same (stoPowerX (w1.heap.size + 1) w1.heap.size cap d2 true HD.out _ ?_); exact hS4.drewN _) | (go_at_call 48; refine Calls.quiet_of_same (stoWroteX (w1.heap.size + 1) w1.heap.size cap d2 k HT.out.w2 _ ?_); exact hS4.drewN _))
          have hb05 : Below w.heap.size w (w4.drewN nq) := ⟨hb04.os, hb04.tape, hb04.output, hb04.size, hb04.block⟩
          have hS5 := hS4.drewN nq
          clear hS4 hb04
          generalize w4.drewN nq = w5 at hS5 hb05 ⊢
          go_wp2_with fail
          refine (stoOff_any _ _ _ d2 w5 hS5).mono ?_
          rintro e w6 ⟨rfl, hS6, hk6⟩
          rw [HT.out.off] at hS6
          have hb06 : Below w.heap.size w w6 := hb05.trans (hk6.below hb05.size (fun k hk he => by omega))
          clear hS5 hb05 hk6
          go_wp2_with fail
          refine (stoWrite_is _ _ _ d3 a 12 d3 s HT.out.e3 HT.out.s3 (by omega) (by omega) (by have := HT.out.w3; omega) (by have := HT.out.f3; omega) w6 hS6).mono ?_
          rintro e w7 ⟨rfl, hS7, hk7⟩
          have hb07 : Below w.heap.size w w7 := hb06.trans (hk7.below hb06.size (fun k hk he => by omega))
          clear hS6 hb06 hk7
          go_wp2_with fail
          refine (stoOn_any _ _ _ d3 w7 hS7).mono ?_
          rintro e w8 ⟨rfl, hS8, hk8⟩
          have hb08 : Below w.heap.size w w8 := hb07.trans (hk8.below hb07.size (fun k hk he => by omega))
          clear hS7 hb07 hk8
          go_wp2_with fail
          refine (stoWrite_is _ _ _ _ a 0 d5 s HT.out.e4 HT.out.s4 (by omega) (by omega) (by have := HT.out.w3; dsimp only; omega) (by have := HT.out.f3; dsimp only; omega) w8 hS8).mono ?_
          rintro e w9 ⟨rfl, hS9, hk9⟩
          have hb09 : Below w.heap.size w w9 := hb08.trans (hk9.below hb08.size (fun k hk he => by omega))
          clear hS8 hb08 hk9
          clear hUU z1 z2 z3 z4 q1 q2 q3 q5 q6 q8 q9 qw q11 r1
          obtain ⟨V, hV⟩ : ∃ V : ByteArray, V = was.extract 0 a ++ s ++ was.extract (a + s.size) was.size := ⟨_, rfl⟩
          have hVR := Lib.hid (show V = ⟨(d5.l.take was.size).toArray⟩ by rw [List.take_of_length_le (by rw [HT.out.n5]; omega), HT.out.l5, hV])
          have HV := Lib.hid hV
          clear hV
          go_wp2_with fail
          refine (stoRead_lit _ _ _ d5 was.size (was.size : Int) rfl (by rw [HT.out.n5]; omega) V hVR.out w9 hS9).mono ?_
          rintro e w10 ⟨rfl, rfl⟩
          have hVV : was.extract 0 a ++ s ++ was.extract (a + s.size) was.size = V := HV.out.symm
          have z1 : (was.extract 0 a).size = a := by rw [ByteArray.size_extract]; omega
          have z3 : (was.extract (a + s.size) was.size).size = was.size - (a + s.size) := by rw [ByteArray.size_extract]; omega
          have z4 : (was.extract 0 a ++ s).size = a + s.size := by rw [ByteArray.size_append]; omega
          have q1 : IntKind.i64.wrap ((a : Int) + (s.size : Int)) = (a : Int) + (s.size : Int) := IntWalk.i64_in _ (by omega)
          have q2 : ((a : Int) + (s.size : Int)).toNat = a + s.size := by omega
          have q3 : (a : Int) + (s.size : Int) ≤ (was.size : Int) := by omega
          have q6 : (0 : Int) ≤ (a : Int) + (s.size : Int) := by omega
          have q9 : a + s.size ≤ was.size := by omega
          have r1 : ¬ (9223372036854775807 < a + s.size) := by omega
          go_wp2
          go_quiet (fail)
          have hb10 : Below w.heap.size w (w9.drewN nq) := ⟨hb09.os, hb09.tape, hb09.output, hb09.size, hb09.block⟩
          go_wp2
          go_ret
          exact ⟨rfl, hb10⟩
        · have hE : (if y < s.size then (12 : Int) else 0) = 0 := if_neg hc
          have hD : d2.dark = false := by rw [hdk'.out]; simpa using hc
          have HE := Lib.hid hE
          have HD := Lib.hid hD
          have hci : (s.size : Int) ≤ y := by omega
          clear hE hD
          go_wp2_with fail
          refine (stoWrite_is _ _ _ _ a 0 d2 s (by rw [HT.out.e1, HE.out]) HT.out.s1 (by omega) (by omega) (by dsimp only; omega) (by dsimp only; omega) w3 hD3).mono ?_
          rintro e w4 ⟨rfl, hS4, hk4⟩
          have hb04 : Below w.heap.size w w4 := hb03.trans (hk4.below hb03.size (fun k hk he => by omega))
          clear hD3 hk4 hb03
          obtain ⟨U, hU⟩ : ∃ U : ByteArray, U = was.extract 0 a ++ s.extract 0 k ++ was.extract (a + k) was.size := ⟨_, rfl⟩
          have hUR := Lib.hid (show U = ⟨(d2.l.take was.size).toArray⟩ by rw [List.take_of_length_le (by rw [HT.out.n2]; omega), HT.out.l2, hU])
          have HU := Lib.hid hU
          clear hU
          go_wp2_with fail
          refine (stoRead_lit _ _ _ d2 was.size (was.size : Int) rfl (by rw [HT.out.n2]; omega) U hUR.out w4 hS4).mono ?_
          rintro e w5 ⟨rfl, rfl⟩
          have hUU : was.extract 0 a ++ s.extract 0 k ++ was.extract (a + k) was.size = U := HU.out.symm
          have z1 : (was.extract 0 a).size = a := by rw [ByteArray.size_extract]; omega
          have z2 : (s.extract 0 k).size = k := by rw [ByteArray.size_extract]; omega
          have z3 : (was.extract (a + k) was.size).size = was.size - (a + k) := by rw [ByteArray.size_extract]; omega
          have z4 : (was.extract 0 a ++ s.extract 0 k).size = a + k := by rw [ByteArray.size_append]; omega
          have q1 : IntKind.i64.wrap ((a : Int) + (k : Int)) = (a : Int) + (k : Int) := IntWalk.i64_in _ (by omega)
          have q2 : ((a : Int) + (k : Int)).toNat = a + k := by omega
          have q3 : (a : Int) + (k : Int) ≤ (was.size : Int) := by omega
          have q4 : (a : Int) ≤ (was.size : Int) := by omega
          have q5 : (k : Int) ≤ (s.size : Int) := by omega
          have q6 : (0 : Int) ≤ (a : Int) + (k : Int) := by omega
          have q7 : a ≤ was.size := by omega
          have q8 : k ≤ s.size := by omega
          have q9 : a + k ≤ was.size := by omega
          have qw : (d2.wrote : Int) = (k : Int) := by rw [HT.out.w2]
          have q10 : IntKind.i64.wrap (a : Int) = (a : Int) := IntWalk.i64_in _ (by omega)
          have q11 : IntKind.i64.wrap (k : Int) = (k : Int) := IntWalk.i64_in _ (by omega)
          have r1 : ¬ (9223372036854775807 < a + k) := by omega
          have r2 : ¬ (9223372036854775807 < was.size) := by omega
          go_wp2
          go_quiet (first | (go_at_call 51; refine Calls.quiet_of_same (stoPowerX (w1.heap.size + 1) w1.heap.size cap d2 false HD.out _ ?_); exact hS4.drewN _) | (go_at_call 48; refine Calls.quiet_of_same (stoWroteX (w1.heap.size + 1) w1.heap.size cap d2 k HT.out.w2 _ ?_); exact hS4.drewN _))
          have hb05 : Below w.heap.size w (w4.drewN nq) := ⟨hb04.os, hb04.tape, hb04.output, hb04.size, hb04.block⟩
          have hS5 := hS4.drewN nq
          clear hS4 hb04
          generalize w4.drewN nq = w5 at hS5 hb05 ⊢
          go_wp2_with fail
          refine (stoOff_any _ _ _ d2 w5 hS5).mono ?_
          rintro e w6 ⟨rfl, hS6, hk6⟩
          rw [HT.out.off] at hS6
          have hb06 : Below w.heap.size w w6 := hb05.trans (hk6.below hb05.size (fun k hk he => by omega))
          clear hS5 hb05 hk6
          go_wp2_with fail
          refine (stoWrite_is _ _ _ d3 a 12 d3 s HT.out.e3 HT.out.s3 (by omega) (by omega) (by have := HT.out.w3; omega) (by have := HT.out.f3; omega) w6 hS6).mono ?_
          rintro e w7 ⟨rfl, hS7, hk7⟩
          have hb07 : Below w.heap.size w w7 := hb06.trans (hk7.below hb06.size (fun k hk he => by omega))
          clear hS6 hb06 hk7
          go_wp2_with fail
          refine (stoOn_any _ _ _ d3 w7 hS7).mono ?_
          rintro e w8 ⟨rfl, hS8, hk8⟩
          have hb08 : Below w.heap.size w w8 := hb07.trans (hk8.below hb07.size (fun k hk he => by omega))
          clear hS7 hb07 hk8
          go_wp2_with fail
          refine (stoWrite_is _ _ _ _ a 0 d5 s HT.out.e4 HT.out.s4 (by omega) (by omega) (by have := HT.out.w3; dsimp only; omega) (by have := HT.out.f3; dsimp only; omega) w8 hS8).mono ?_
          rintro e w9 ⟨rfl, hS9, hk9⟩
          have hb09 : Below w.heap.size w w9 := hb08.trans (hk9.below hb08.size (fun k hk he => by omega))
          clear hS8 hb08 hk9
          clear hUU z1 z2 z3 z4 q1 q2 q3 q5 q6 q8 q9 qw q11 r1
          obtain ⟨V, hV⟩ : ∃ V : ByteArray, V = was.extract 0 a ++ s ++ was.extract (a + s.size) was.size := ⟨_, rfl⟩
          have hVR := Lib.hid (show V = ⟨(d5.l.take was.size).toArray⟩ by rw [List.take_of_length_le (by rw [HT.out.n5]; omega), HT.out.l5, hV])
          have HV := Lib.hid hV
          clear hV
          go_wp2_with fail
          refine (stoRead_lit _ _ _ d5 was.size (was.size : Int) rfl (by rw [HT.out.n5]; omega) V hVR.out w9 hS9).mono ?_
          rintro e w10 ⟨rfl, rfl⟩
          have hVV : was.extract 0 a ++ s ++ was.extract (a + s.size) was.size = V := HV.out.symm
          have z1 : (was.extract 0 a).size = a := by rw [ByteArray.size_extract]; omega
          have z3 : (was.extract (a + s.size) was.size).size = was.size - (a + s.size) := by rw [ByteArray.size_extract]; omega
          have z4 : (was.extract 0 a ++ s).size = a + s.size := by rw [ByteArray.size_append]; omega
          have q1 : IntKind.i64.wrap ((a : Int) + (s.size : Int)) = (a : Int) + (s.size : Int) := IntWalk.i64_in _ (by omega)
          have q2 : ((a : Int) + (s.size : Int)).toNat = a + s.size := by omega
          have q3 : (a : Int) + (s.size : Int) ≤ (was.size : Int) := by omega
          have q6 : (0 : Int) ≤ (a : Int) + (s.size : Int) := by omega
          have q9 : a + s.size ≤ was.size := by omega
          have r1 : ¬ (9223372036854775807 < a + s.size) := by omega
          go_wp2
          go_quiet (fail)
          have hb10 : Below w.heap.size w (w9.drewN nq) := ⟨hb09.os, hb09.tape, hb09.output, hb09.size, hb09.block⟩
          go_wp2
          go_ret
          exact ⟨rfl, hb10⟩
      · go_wp2
        go_ret
        exact ⟨rfl, hb01⟩
    · go_wp2
      go_ret
      exact ⟨rfl, hb01⟩
  · go_wp2
    go_ret
    exact ⟨rfl, hb01⟩
end Go.Proofs.Ytpkgpffodkfncaa
