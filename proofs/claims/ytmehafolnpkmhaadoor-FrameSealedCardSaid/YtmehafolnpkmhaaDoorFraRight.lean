/- frame.Right, frame.Size. -/
import Derived.Test.YtmehafolnpkmhaaDoorFraBare
import Derived.Test.YtmehafolnpkmhaaDoorFraShapes
namespace Go.Proofs.YtmehafolnpkmhaaDoor
open Go.RowKit
/-- May a frame be? -/
def rightP (f : Fr) : Prop := (1 ≤ f.k ∧ f.k ≤ 5) ∧ (f.k = 4 → f.d = 0 ∧ f.di = 0) ∧ (f.s < 32 ∧ f.d < 32 ∧ f.ea < 32 ∧ f.ha < 32) ∧ bareP f
instance (f : Fr) : Decidable (rightP f) := by unfold rightP; infer_instance
theorem shapeF_ok (k : Int) : (shapeF k).2.2.2.2 = decide (1 ≤ k ∧ k ≤ 5) ∧ (shapeF k).2.1 = decide (k ≠ 4) := by
  unfold shapeF
  by_cases h1 : k = 1
  · subst h1; decide
  by_cases h2 : k = 2
  · subst h2; decide
  by_cases h3 : k = 3
  · subst h3; decide
  by_cases h4 : k = 4
  · subst h4; decide
  by_cases h5 : k = 5
  · subst h5; decide
  rw [if_neg h1, if_neg h2, if_neg h3, if_neg h4, if_neg h5]
  constructor
  · symm; simp; omega
  · symm; simp; omega
theorem run_max4 {P : Program} (ts : Array TypeId) (t : TypeId) (k : IntKind) (x y z u : Int) (w : World) : (Builtin.max_ ts t #[.int k x, .int k y, .int k z, .int k u]).run P w = .ok (.int k (max (max (max x y) z) u)) w := by
  have e : ∀ a b : Int, (if a < b then b else a) = max a b := fun a b => by split <;> omega
  simp [Builtin.max_, Builtin.max2]
  simp only [e]
  omega
set_option maxRecDepth 100000 in
set_option maxHeartbeats 4000000 in
theorem right_any (C : Array Value) (f : Fr) (h : C = f.cells) (w : World) : Calls Tryd.prog 43 #[.agg C] w fun e w' => e = .returned (.bool (decide (rightP f))) ∧ Below w.heap.size w w' := by
  have hC := Fr.size h
  have c0 : C[0] = _ := Fr.a0 h
  have c1 : C[1] = _ := Fr.a1 h
  have c2 : C[2] = _ := Fr.a2 h
  have c4 : C[4] = _ := Fr.a4 h
  have c6 : C[6] = _ := Fr.a6 h
  have c10 : C[10] = _ := Fr.a10 h
  have HF := Lib.hid h
  have HB0 := Lib.hid (show Below w.heap.size w (w.alloc (.cells C 49)) from (Below.refl _ w).alloc (Nat.le_refl _) _)
  have hob := ObjAt.new w C 49
  have HO := Lib.hid hob
  obtain ⟨e1, e2⟩ := shapeF_ok f.k
  obtain ⟨n0, hn0⟩ : ∃ x, x = (shapeF f.k).1 := ⟨_, rfl⟩
  obtain ⟨to, hto⟩ : ∃ x, x = (shapeF f.k).2.1 := ⟨_, rfl⟩
  obtain ⟨l0, hl0⟩ : ∃ x, x = (shapeF f.k).2.2.1 := ⟨_, rfl⟩
  obtain ⟨m0, hm0⟩ : ∃ x, x = (shapeF f.k).2.2.2.1 := ⟨_, rfl⟩
  obtain ⟨ok, hok⟩ : ∃ x, x = (shapeF f.k).2.2.2.2 := ⟨_, rfl⟩
  have hsh := shapes_any f.k (w.alloc (.cells C 49))
  rw [← hn0, ← hto, ← hl0, ← hm0, ← hok] at hsh
  rw [← hok] at e1
  rw [← hto] at e2
  have HSH := Lib.hid hsh
  have HE := Lib.hid (And.intro e1 e2)
  obtain ⟨mm, hmm⟩ : ∃ mm, mm = max (max (max f.s f.d) f.ea) f.ha := ⟨_, rfl⟩
  have hmx : ∀ W : World, (Builtin.max_ #[5, 5, 5, 5] 5 #[.int .u8 f.s, .int .u8 f.d, .int .u8 f.ea, .int .u8 f.ha]).run Tryd.prog W = .ok (.int .u8 mm) W := fun W => by rw [hmm]; exact run_max4 _ _ _ _ _ _ _ W
  have HMM := Lib.hid (show mm < 32 ↔ f.s < 32 ∧ f.d < 32 ∧ f.ea < 32 ∧ f.ha < 32 by rw [hmm]; omega)
  clear hmm
  clear h e1 e2 hn0 hto hl0 hm0 hok hsh hob
  go_enter Tryd.func43, Tryd.ntmps43
  go_wp2_with fail
  refine HSH.out.mono ?_
  rintro e w1 ⟨rfl, hb1⟩
  have HB1 := Lib.hid (HB0.out.trans (hb1.mono (by simp)))
  have ho1 := (Keep.of_below (S := fun _ => False) hb1).obj HO.out (fun h => h)
  have HB1' := Lib.hid hb1
  clear hb1 HSH HB0 HO
  have hg : w.heap.size < w1.heap.size := ho1.lt
  generalize hgg : w.heap.size = g at *
  have d1 := Fr.m1 HF.out ho1
  have d2 := Fr.m2 HF.out ho1
  have d4 := Fr.m4 HF.out ho1
  have d6 := Fr.m6 HF.out ho1
  have d10 := Fr.m10 HF.out ho1
  have HBX := Lib.hid (show Below w.heap.size w (w1.alloc (.cells #[.string n0, .bool to, .int .i64 l0, .int .i64 m0] 82)) by rw [hgg]; exact HB1.out.alloc (Nat.le_of_lt hg) _)
  have HGG := Lib.hid hgg
  clear hgg
  cases ok
  · go_wp2
    go_ret
    refine ⟨congrArg (fun b => Ending.returned (Value.bool b)) ?_, HBX.out⟩
    clear c0 c1 c2 c4 c6 c10 d1 d2 d4 d6 d10 hmx hC
    symm
    have he := HE.out
    have hm := HMM.out
    apply decide_eq_false
    unfold rightP
    simp at he
    omega
  · cases to
    · by_cases hd : f.d = 0
      · rw [hd] at hmx d2 c2
        by_cases hdi : f.di = 0
        · rw [hdi] at d4 c4
          by_cases hm32 : mm < 32
          · go_wp2_with ((with_reducible refine wpList_frame (.tmp 1) ?ho ?hw g C ?hx hC ?hg ?h); (case ho => rfl); (case hw => kernel_rfl); (case hx => rfl); (case hg => exact ho1.alloc _))
            refine (bare_any C f HF.out _).mono ?_
            rintro e w2 ⟨rfl, hb2⟩
            have HBY := Lib.hid (HBX.out.trans (hb2.mono HBX.out.size))
            clear hb2
            go_wp2
            go_ret
            refine ⟨congrArg (fun b => Ending.returned (Value.bool b)) ?_, HBY.out⟩
            clear c0 c1 c2 c4 c6 c10 d1 d2 d4 d6 d10 hmx hC
            have he := HE.out
            have hm := HMM.out.1 hm32
            simp at he
            have hiff : rightP f ↔ bareP f := ⟨fun h => h.2.2.2, fun h => ⟨⟨by omega, by omega⟩, fun _ => by first | exact ⟨hd, hdi⟩ | omega, hm, h⟩⟩
            simp only [hiff]
          · go_wp2
            go_ret
            refine ⟨congrArg (fun b => Ending.returned (Value.bool b)) ?_, HBX.out⟩
            clear c0 c1 c2 c4 c6 c10 d1 d2 d4 d6 d10 hmx hC
            symm
            have he := HE.out
            have hm := HMM.out
            apply decide_eq_false
            unfold rightP
            simp at he
            omega
        · go_wp2
          go_ret
          refine ⟨congrArg (fun b => Ending.returned (Value.bool b)) ?_, HBX.out⟩
          clear c0 c1 c2 c4 c6 c10 d1 d2 d4 d6 d10 hmx hC
          symm
          have he := HE.out
          have hm := HMM.out
          apply decide_eq_false
          unfold rightP
          simp at he
          omega
      · go_wp2
        go_ret
        refine ⟨congrArg (fun b => Ending.returned (Value.bool b)) ?_, HBX.out⟩
        clear c0 c1 c2 c4 c6 c10 d1 d2 d4 d6 d10 hmx hC
        symm
        have he := HE.out
        have hm := HMM.out
        apply decide_eq_false
        unfold rightP
        simp at he
        omega
    · by_cases hm32 : mm < 32
      · go_wp2_with ((with_reducible refine wpList_frame (.tmp 1) ?ho ?hw g C ?hx hC ?hg ?h); (case ho => rfl); (case hw => kernel_rfl); (case hx => rfl); (case hg => exact ho1.alloc _))
        refine (bare_any C f HF.out _).mono ?_
        rintro e w2 ⟨rfl, hb2⟩
        have HBY := Lib.hid (HBX.out.trans (hb2.mono HBX.out.size))
        clear hb2
        go_wp2
        go_ret
        refine ⟨congrArg (fun b => Ending.returned (Value.bool b)) ?_, HBY.out⟩
        clear c0 c1 c2 c4 c6 c10 d1 d2 d4 d6 d10 hmx hC
        have he := HE.out
        have hm := HMM.out.1 hm32
        simp at he
        have hiff : rightP f ↔ bareP f := ⟨fun h => h.2.2.2, fun h => ⟨⟨by omega, by omega⟩, fun _ => by first | exact ⟨hd, hdi⟩ | omega, hm, h⟩⟩
        simp only [hiff]
      · go_wp2
        go_ret
        refine ⟨congrArg (fun b => Ending.returned (Value.bool b)) ?_, HBX.out⟩
        clear c0 c1 c2 c4 c6 c10 d1 d2 d4 d6 d10 hmx hC
        symm
        have he := HE.out
        have hm := HMM.out
        apply decide_eq_false
        unfold rightP
        simp at he
        omega
end Go.Proofs.YtmehafolnpkmhaaDoor
