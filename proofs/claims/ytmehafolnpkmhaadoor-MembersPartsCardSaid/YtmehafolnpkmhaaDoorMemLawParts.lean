/- Members: the laws of rounds and of parts, walked. -/
import Derived.Test.YtmehafolnpkmhaaDoorMemPure6
import Derived.Test.YtmehafolnpkmhaaDoorMemLawNext
import Derived.Test.YtmehafolnpkmhaaDoorgBase
namespace Go.Proofs.YtmehafolnpkmhaaDoor
open Go.RowKit
theorem u8_nat {s : Int} (ws : (Lit.int .u8 s).wf = true) : ∃ x : Nat, s = (x : Int) ∧ x < 256 := by
  have h : IntKind.u8.min ≤ s ∧ s ≤ IntKind.u8.max := by simpa [Lit.wf] using ws
  have h1 : IntKind.u8.min = 0 := rfl
  have h2 : IntKind.u8.max = 255 := rfl
  exact ⟨s.toNat, by omega, by omega⟩
theorem membersRound_walk (s : Int) (ws : (Lit.int .u32 s).wf = true) (a : Int) (wa : (Lit.int .u8 a).wf = true) (w : World) (hL : LaidW w) :
    Calls Tryd.prog 5 #[.int .u32 s, .int .u8 a] w fun e w' => e = .returned (.bool true) ∧ Below w.heap.size w w' := by
  obtain ⟨x, rfl, hx⟩ := u32_nat ws
  obtain ⟨n, rfl, hn⟩ := u8_nat wa
  exact PMem.fuglemanlaw05_MembersRound.calls 300 x n true w (PMem.round_law x n hx hn) hL
theorem not_max (b : Nat) (hb : PMem.Set32 b) : bits .xor .u32 IntKind.u32.max (b : Int) = ((PMem.flip32 b : Nat) : Int) := by
  have hx := PMem.flip_lt b
  unfold PMem.Set32 at hx
  show IntKind.u32.wrap ((BitVec.ofInt 32 IntKind.u32.max ^^^ BitVec.ofInt 32 (b : Int)).toNat : Int) = _
  have h1 : BitVec.ofInt 32 IntKind.u32.max = BitVec.allOnes 32 := by decide
  rw [h1, BitVec.allOnes_xor, BitVec.toNat_not, PMem.ofInt32 b hb, IntKind.wrap_u32']
  have : 2 ^ 32 - 1 - b = PMem.flip32 b := rfl
  rw [this]
  omega
theorem drawn_below {w w1 w2 : World} (h : Below w.heap.size w w1) (hd : YtmehafolnpkmhaaDoorW.PrintWords.Drawn0 w1 w2) : Below w.heap.size w w2 := h.trans (hd.below.mono h.size)
set_option maxRecDepth 100000 in
set_option maxHeartbeats 4000000 in
theorem membersParts_walk {H : Type} {enc : TypeId × Value → H} (s : Int) (ws : (Lit.int .u32 s).wf = true) (v : Value) (dv : DataW H) (pv : List MemPlace) {w : World}
    (h : DataW.Trod enc Tryd.prog w 0 (fun _ => true) true 41 v dv pv) (o : Value.okWide Tryd.prog w .any 0 41 v) (_ : ∀ x ∈ dv.weights Tryd.prog 41, x ≤ 140737488351232) (_ : World) (hL : LaidW w) :
    Calls Tryd.prog 7 #[.int .u32 s, v] w fun e w' => e = .returned (.bool true) ∧ Below w.heap.size w w' := by
  obtain ⟨x, rfl, hx⟩ := u32_nat ws
  obtain ⟨l, hl, rfl, hin⟩ := arr_of (k := .u8) Tryd.underlying41 Tryd.underlying5 (by kernel_rfl) (by kernel_rfl) h o
  clear h o
  match l, hl with
  | [p0, q0], _ =>
  obtain ⟨p, rfl, hp⟩ := u8_nat (hin p0 (by simp))
  obtain ⟨q, rfl, hq⟩ := u8_nat (hin q0 (by simp))
  clear hin
  have hX : ObjAt (w.alloc (.cells #[.int .u8 p, .int .u8 q] 41)) w.heap.size #[.int .u8 p, .int .u8 q] 41 := ObjAt.new _ _ _
  have hbx : Below w.heap.size w (w.alloc (.cells #[.int .u8 p, .int .u8 q] 41)) := (Below.refl _ w).alloc (Nat.le_refl _) _
  have HX := Lib.hid (And.intro hX hbx)
  have hL1 := laidW_below hL hbx (Nat.le_refl _)
  have HL := Lib.hid hL1
  clear hX hbx hL1 hL
  go_enter Tryd.func7, Tryd.ntmps7
  go_wp2_with fail
  refine (PMem.fuglemanlaw05_awake.calls 300 true _ (by decide +kernel) HL.out).mono ?_
  rintro e w1 ⟨rfl, hb1⟩
  have hX1 := below_obj hb1 HX.out.1
  have hsz : w.heap.size < w1.heap.size := hX1.lt
  have HB1 := Lib.hid (HX.out.2.trans (hb1.mono HX.out.2.size))
  have HL1 := Lib.hid (laidW_below HL.out hb1 (Nat.le_refl _))
  have c0 : w1.cell? ⟨w.heap.size, 0, none⟩ = some (.int .u8 p) := hX1.cell 0
  have c1 : w1.cell? ⟨w.heap.size, 1, none⟩ = some (.int .u8 q) := hX1.cell 1
  clear hb1 hX1
  go_wp2_with fail
  obtain ⟨a, hpa0⟩ : ∃ a : Nat, a = p % 32 := ⟨_, rfl⟩
  obtain ⟨b, hqb0⟩ : ∃ b : Nat, b = q % 32 := ⟨_, rfl⟩
  have ha : a < 32 := by omega
  have hb : b < 32 := by omega
  have hpa : (p : Int) % 32 = (a : Int) := by omega
  have hqb : (q : Int) % 32 = (b : Int) := by omega
  clear hpa0 hqb0
  by_cases hab : a = b
  · subst hab
    obtain ⟨u, hu⟩ : ∃ u : Nat, u = PMem.betN a a := ⟨_, rfl⟩
    obtain ⟨E, hE⟩ : ∃ E : Nat, E = PMem.oneN (a : Int) := ⟨_, rfl⟩
    have HU := Lib.hid (PMem.mBetween_eq a a 300 ha ha (by omega))
    have hw0 := PMem.mWith_eq 0 (a : Int) (by decide)
    have HW0 := Lib.hid hw0
    have HW1 := Lib.hid (PMem.mWith_eq _ (a : Int) (PMem.withN_lt 0 (a : Int) (by decide)))
    have HP := Lib.hid (PMem.mPass_eq x a a 300 hx ha ha (by omega))
    rw [← hu] at HU
    rw [PMem.parts_ends a ha, ← hE] at HW1
    rw [PMem.parts_pass_same x a ha, ← hE] at HP
    have hxr : bits .xor .u32 IntKind.u32.max (E : Int) = (u : Int) := by
      rw [hE, not_max _ (PMem.oneN_lt _), hu, PMem.parts_same a ha]
    have hsg : IntKind.u32.signed = false := rfl
    clear hu hE hw0
    go_quiet (fail)
    go_wp2_with fail
    refine (PMem.members_Between.calls 300 _ _ _ _ HU.out).mono ?_
    rintro e w2 ⟨rfl, hd2⟩
    have HD2 := Lib.hid hd2
    clear hd2
    go_wp2_with fail
    refine (PMem.members_Between.calls 300 _ _ _ _ HU.out).mono ?_
    rintro e w3 ⟨rfl, hd3⟩
    have HD3 := Lib.hid hd3
    clear hd3
    go_wp2_with fail
    refine (PMem.members_With.calls _ _ _ _ HW0.out).mono ?_
    rintro e w4 ⟨rfl, hd4⟩
    have HD4 := Lib.hid hd4
    clear hd4
    go_wp2_with fail
    refine (PMem.members_With.calls _ _ _ _ HW1.out).mono ?_
    rintro e w5 ⟨rfl, hd5⟩
    have HD5 := Lib.hid hd5
    clear hd5
    go_wp2_with fail
    refine (PMem.members_Pass.calls 300 _ _ _ _ _ HP.out).mono ?_
    rintro e w6 ⟨rfl, hd6⟩
    have HD6 := Lib.hid hd6
    clear hd6
    go_wp2
    go_ret
    exact ⟨rfl, drawn_below (drawn_below (drawn_below (drawn_below (drawn_below (drawn_below HB1.out ⟨⟨nq, rfl⟩⟩) HD2.out) HD3.out) HD4.out) HD5.out) HD6.out⟩
  · obtain ⟨u, hu⟩ : ∃ u : Nat, u = PMem.betN a b := ⟨_, rfl⟩
    obtain ⟨d, hd⟩ : ∃ u : Nat, u = PMem.betN b a := ⟨_, rfl⟩
    obtain ⟨E, hE⟩ : ∃ E : Nat, E = PMem.withN (PMem.withN 0 (a : Int)) (b : Int) := ⟨_, rfl⟩
    obtain ⟨P, hP⟩ : ∃ E : Nat, E = PMem.passN x a b := ⟨_, rfl⟩
    have HU := Lib.hid (PMem.mBetween_eq a b 300 ha hb (by omega))
    have HV := Lib.hid (PMem.mBetween_eq b a 300 hb ha (by omega))
    have HW0 := Lib.hid (PMem.mWith_eq 0 (a : Int) (by decide))
    have HW1 := Lib.hid (PMem.mWith_eq _ (b : Int) (PMem.withN_lt 0 (a : Int) (by decide)))
    have HP := Lib.hid (PMem.mPass_eq x a b 300 hx ha hb (by omega))
    have HN := Lib.hid (PMem.parts_next x a b ha hb hab)
    have lu : PMem.Set32 (PMem.betN a b) := PMem.betN_lt a b hb
    have ld : PMem.Set32 (PMem.betN b a) := PMem.betN_lt b a ha
    have lE : PMem.Set32 (PMem.withN (PMem.withN 0 (a : Int)) (b : Int)) := PMem.ends_lt _ _
    have lP : PMem.Set32 (PMem.passN x a b) := PMem.passN_lt x a b
    have q1 : bits .and .u32 (u : Int) (d : Int) = 0 := by rw [hu, hd, PMem.and_u32 _ _ lu ld, PMem.parts_updown a b ha hb hab]; rfl
    have q2 : bits .and .u32 (u : Int) (E : Int) = 0 := by rw [hu, hE, PMem.and_u32 _ _ lu lE, PMem.parts_upends a b ha hb hab]; rfl
    have q3 : bits .and .u32 (d : Int) (E : Int) = 0 := by rw [hd, hE, PMem.and_u32 _ _ ld lE, PMem.parts_downends a b ha hb hab]; rfl
    have q4 : bits .or .u32 (bits .or .u32 (u : Int) (d : Int)) (E : Int) = 4294967295 := by
      rw [hu, hd, hE, PMem.or_u32 _ _ lu ld, PMem.or_u32 _ _ (PMem.or_lt' _ _ lu ld) lE, PMem.parts_all a b ha hb hab]; rfl
    have q5 : bits .and .u32 (P : Int) (d : Int) = bits .and .u32 (x : Int) (d : Int) := by rw [hP, hd, PMem.and_u32 _ _ lP ld, PMem.and_u32 _ _ hx ld, PMem.parts_down x a b ha hb hab]
    have q6 : bits .and .u32 (P : Int) (E : Int) = (E : Int) := by rw [hP, hE, PMem.and_u32 _ _ lP lE, PMem.parts_pends x a b ha hb]
    rw [← hu] at HU
    rw [← hd] at HV
    rw [← hE] at HW1
    rw [← hP] at HP
    rw [← hP] at HN
    have hab2 : ((a : Int) == (b : Int)) = false := by simp; omega
    clear hu hd hE hP lu ld lE lP hab
    go_quiet (fail)
    go_wp2_with fail
    refine (PMem.members_Between.calls 300 _ _ _ _ HU.out).mono ?_
    rintro e w2 ⟨rfl, hd2⟩
    have HD2 := Lib.hid hd2
    clear hd2
    go_wp2_with fail
    refine (PMem.members_Between.calls 300 _ _ _ _ HV.out).mono ?_
    rintro e w3 ⟨rfl, hd3⟩
    have HD3 := Lib.hid hd3
    clear hd3
    go_wp2_with fail
    refine (PMem.members_With.calls _ _ _ _ HW0.out).mono ?_
    rintro e w4 ⟨rfl, hd4⟩
    have HD4 := Lib.hid hd4
    clear hd4
    go_wp2_with fail
    refine (PMem.members_With.calls _ _ _ _ HW1.out).mono ?_
    rintro e w5 ⟨rfl, hd5⟩
    have HD5 := Lib.hid hd5
    clear hd5
    go_wp2_with fail
    refine (PMem.members_Pass.calls 300 _ _ _ _ _ HP.out).mono ?_
    rintro e w6 ⟨rfl, hd6⟩
    have HB6 := drawn_below (drawn_below (drawn_below (drawn_below (drawn_below (drawn_below (Below.refl _ w1) ⟨⟨nq, rfl⟩⟩) HD2.out) HD3.out) HD4.out) HD5.out) hd6
    have HB7 := Lib.hid (HB1.out.trans (HB6.mono HB1.out.size))
    have HL6 := Lib.hid (laidW_below HL1.out HB6 (Nat.le_refl _))
    clear hd6 HB6
    go_wp2_with fail
    refine (PMem.members_Next.calls _ _ _ _ _ HN.out HL6.out).mono ?_
    rintro e w7 ⟨rfl, hd7⟩
    have HD7 := Lib.hid hd7
    clear hd7
    go_wp2
    go_ret
    exact ⟨rfl, drawn_below HB7.out HD7.out⟩
end Go.Proofs.YtmehafolnpkmhaaDoor
