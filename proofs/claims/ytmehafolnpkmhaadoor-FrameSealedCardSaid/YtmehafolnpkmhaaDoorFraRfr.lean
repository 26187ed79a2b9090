/- The reference's frame. -/
import Derived.Test.YtmehafolnpkmhaaDoorFraNum
import Derived.Deep.Cut
import Derived.Deep.CutRange
import Derived.Deep.RegionLaw
import Derived.Test.YtmehafolnpkmhaaDoorFraRead
import Derived.Test.YtmehafolnpkmhaaDoorFraRref
import Derived.Test.YtmehafolnpkmhaaDoorFraDec
namespace Go.Proofs.YtmehafolnpkmhaaDoor
open Go.RowKit
theorem u16_in (x : Int) (h : 0 ≤ x ∧ x < 65536) : IntKind.u16.wrap x = x := by
  have : IntKind.u16.wrap x = x % 65536 := by simp [IntKind.wrap, IntKind.bits, IntKind.signed]
  omega
theorem number_two (s : ByteArray) (a : Nat) (hs : s.size ≤ maxLen) (h : a + 2 ≤ s.size) (b : Int) (hb : b = (a : Int)) (w : World) :
    Calls Tryd.prog 96 #[.string s, .int .i64 b, .int .i64 2] w fun e w' => e = .returned (.int .u32 (nb s a 2 : Nat)) ∧ Below w.heap.size w w' := by
  subst hb
  exact number_in s a 2 hs h w
theorem number_four (s : ByteArray) (a : Nat) (hs : s.size ≤ maxLen) (h : a + 4 ≤ s.size) (b : Int) (hb : b = (a : Int)) (w : World) :
    Calls Tryd.prog 96 #[.string s, .int .i64 b, .int .i64 4] w fun e w' => e = .returned (.int .u32 (nb s a 4 : Nat)) ∧ Below w.heap.size w w' := by
  subst hb
  exact number_in s a 4 hs h w
theorem both_call {w w1 w2 : World} {g : Nat} {C : Array Value} {t : TypeId} (h : ObjAt w1 g C t ∧ Below g w w1) (hb : Below w1.heap.size w1 w2) : ObjAt w2 g C t ∧ Below g w w2 :=
  ⟨(Keep.of_below (S := fun _ => False) hb).obj h.1 (fun h => h), h.2.trans (hb.mono (Nat.le_of_lt h.1.lt))⟩
theorem both_alloc {w w1 : World} {g : Nat} {C : Array Value} {t : TypeId} (h : ObjAt w1 g C t ∧ Below g w w1) (o : Obj) : ObjAt (w1.alloc o) g C t ∧ Below g w (w1.alloc o) :=
  ⟨h.1.alloc o, h.2.alloc (Nat.le_of_lt h.1.lt) o⟩
theorem obj_call {w1 w2 : World} {g : Nat} {C : Array Value} {t : TypeId} (h : ObjAt w1 g C t) (hb : Below w1.heap.size w1 w2) : ObjAt w2 g C t := (Keep.of_below (S := fun _ => False) hb).obj h (fun h => h)
/-- A frame of six things. -/
def F6 (k s d si di h : Int) : Array Value := (⟨k, s, d, si, di, 0, 0, 0, h, 0, 0, 0, false, 0, 0, 0, 0, 0, ⟨#[]⟩⟩ : Fr).cells
theorem yields_build {P : Program} {ops : Array Oper} {o : Oper} {a : Act} {t : TypeId} {parts : Array (Nat × Operand)} {C : Array Value} (hg : o.guard = none) (ho : o.op = .build t parts)
    (hc : P.built t (parts.map fun (i, x) => (i, a.eval x)).toList = some C) : Yields P ops o (.agg C) a := by
  refine .inl ⟨by simp [Region.wanted, hg], fun w => ?_⟩
  unfold execOp
  simp only [ho, run_build w t _ C hc, Sem.run_bind, Sem.run_pure, Result.andThen_ok]
/-- A whole value stored into its block, as one step. -/
theorem step_store {P : Program} {ops : Array Oper} {o : Oper} {a : Act} {w : World} {K : Act → World → Prop} {Q : Exit → Act → World → Prop} {E : Prop} (hgd : o.guard = none) (ty : TypeId) (x y : Operand) (ho : o.op = .store ty x y)
    (g : Nat) (C C' : Array Value) (hx : a.eval x = .pointer (some ⟨g, 0, none⟩)) (hy : a.eval y = .agg C') (hob : ObjAt w g C ty) (hi : (P.info? ty).map (·.size) = some C'.size) (hs : C.size = C'.size) (h1 : C'.all (·.oneCell') = true)
    (hK : ∀ w', ObjAt w' g C' ty → (∀ k, k ≠ g → w'.heap[k]? = w.heap[k]?) ∧ w'.os = w.os ∧ w'.tape = w.tape ∧ w'.output = w.output ∧ w'.heap.size = w.heap.size → K (a.put o.dst undef) w') :
    if Region.wanted o (yielded ops a.tmps) = true then Oper.wp P o a w K Q else E := by
  have hw : Region.wanted o (yielded ops a.tmps) = true := by simp [Region.wanted, hgd]
  rw [if_pos hw]
  refine wp_store_row ty x y ho g C' hx hy ty C hob hi hs h1 ?_
  exact hK _ (setRow_heap w g C C' ty (0, 0) hob) ⟨fun k hk => setRow_other w g k C' hk, rfl, rfl, rfl, by simp⟩
theorem both_store {w w1 w2 : World} {g a : Nat} {C : Array Value} {t : TypeId} (h : ObjAt w1 g C t ∧ Below g w w1) (hk : (∀ k, k ≠ a → w2.heap[k]? = w1.heap[k]?) ∧ w2.os = w1.os ∧ w2.tape = w1.tape ∧ w2.output = w1.output ∧ w2.heap.size = w1.heap.size) (hn : g < a) : ObjAt w2 g C t ∧ Below g w w2 :=
  ⟨(hk.1 g (Nat.ne_of_lt hn)).trans h.1, ⟨hk.2.1.trans h.2.os, hk.2.2.1.trans h.2.tape, hk.2.2.2.1.trans h.2.output, by rw [hk.2.2.2.2]; exact h.2.size, fun k hkk => (hk.1 k (by omega)).trans (h.2.block k hkk)⟩⟩
/-- What is known while the frame is read: the frame under way, the result's block, all else. -/
def T3 (w wx : World) (g : Nat) (C : Array Value) : Prop := ObjAt wx g C 49 ∧ ObjAt wx w.heap.size Fr.zero.cells 49 ∧ Below w.heap.size w wx ∧ w.heap.size < g
theorem t3_drew {w wx : World} {g : Nat} {C : Array Value} (h : T3 w wx g C) : T3 w wx.drew g C := ⟨h.1, h.2.1, ⟨h.2.2.1.os, h.2.2.1.tape, h.2.2.1.output, h.2.2.1.size, h.2.2.1.block⟩, h.2.2.2⟩
theorem t3_call {w w1 w2 : World} {g : Nat} {C : Array Value} (h : T3 w w1 g C) (hb : Below w1.heap.size w1 w2) : T3 w w2 g C :=
  ⟨obj_call h.1 hb, obj_call h.2.1 hb, (both_call ⟨h.2.1, h.2.2.1⟩ hb).2, h.2.2.2⟩
theorem t3_sets {w w1 w2 : World} {g : Nat} {C C' : Array Value} (h : T3 w w1 g C) (ho : ObjAt w2 g C' 49)
    (hk : (∀ k, k ≠ g → w2.heap[k]? = w1.heap[k]?) ∧ w2.os = w1.os ∧ w2.tape = w1.tape ∧ w2.output = w1.output ∧ w2.heap.size = w1.heap.size) : T3 w w2 g C' :=
  ⟨ho, (both_store ⟨h.2.1, h.2.2.1⟩ hk h.2.2.2).1, (both_store ⟨h.2.1, h.2.2.1⟩ hk h.2.2.2).2, h.2.2.2⟩
theorem ext_tail (s : ByteArray) (a : Nat) : (s.extract 0 (s.size - 2)).extract a (s.extract 0 (s.size - 2)).size = s.extract a (s.size - 2) := by
  rw [ByteArray.extract_extract, ByteArray.size_extract]
  congr 1 <;> omega
theorem beq_one (n : Nat) : ((n : Int) == 1) = decide (n = 1) := by
  by_cases h : n = 1
  · subst h
    rfl
  · have h2 : ¬ (n : Int) = 1 := by omega
    simp [h, h2]
theorem new_obj (w : World) (C : Array Value) (t : TypeId) : ObjAt (w.alloc (.cells C t)) w.heap.size C t := ObjAt.new w C t
set_option maxRecDepth 100000 in
set_option maxHeartbeats 8000000 in
theorem rframe_any (s : ByteArray) (hs : s.size ≤ maxLen) (h15 : 17 ≤ s.size) (hk3 : nb s 0 1 = 3 → 23 ≤ s.size) (hk4 : nb s 0 1 = 4 → 26 ≤ s.size) (w : World) :
    Calls Tryd.prog 79 #[.string s] w fun e w' => e = .returned (.agg (frF (s.extract 0 (s.size - 2))).cells) ∧ Below w.heap.size w w' := by
  have HR0 := Lib.hid (show ObjAt (w.alloc (.cells Fr.zero.cells 49)) w.heap.size Fr.zero.cells 49 from ObjAt.new w _ _)
  have HB0 := Lib.hid ((Below.refl w.heap.size w).alloc (Nat.le_refl _) (.cells Fr.zero.cells 49))
  have hm := hs
  unfold maxLen at hm
  have hz0 : 0 < s.size := by omega
  have hz2 : 2 < s.size := by omega
  have hz5 : 5 < s.size := by omega
  have hz10 : 10 < s.size := by omega
  have i0 : (0 : Int) < (s.size : Int) := by omega
  have i2 : (2 : Int) < (s.size : Int) := by omega
  have i5 : (5 : Int) < (s.size : Int) := by omega
  have i10 : (10 : Int) < (s.size : Int) := by omega
  have v0 : s[0].toNat = nb s 0 1 := (nb_one s 0 hz0).symm
  have v2 : s[2].toNat = nb s 2 1 := (nb_one s 2 hz2).symm
  have v5 : s[5].toNat = nb s 5 1 := (nb_one s 5 hz5).symm
  have v10 : s[10].toNat = nb s 10 1 := (nb_one s 10 hz10).symm
  have l0 := nb_lt s 0 1 (by decide)
  have l2 := nb_lt s 2 1 (by decide)
  have l5 := nb_lt s 5 1 (by decide)
  have l10 := nb_lt s 10 1 (by decide)
  have l3 := nb_lt s 3 2 (by decide)
  have l6 := nb_lt s 6 2 (by decide)
  have l13 := nb_lt s 13 2 (by decide)
  have l8 := nb_lt s 8 2 (by decide)
  have l11 := nb_lt s 11 2 (by decide)
  have q0 : IntKind.i64.wrap (nb s 0 1 : Nat) = (nb s 0 1 : Nat) := IntWalk.i64_in _ (by omega)
  have q3 : IntKind.u16.wrap (nb s 3 2 : Nat) = (nb s 3 2 : Nat) := u16_in _ (by omega)
  have q6 : IntKind.u16.wrap (nb s 6 2 : Nat) = (nb s 6 2 : Nat) := u16_in _ (by omega)
  have q13 : IntKind.u16.wrap (nb s 13 2 : Nat) = (nb s 13 2 : Nat) := u16_in _ (by omega)
  have q8 : IntKind.u16.wrap (nb s 8 2 : Nat) = (nb s 8 2 : Nat) := u16_in _ (by omega)
  have q11 : IntKind.u16.wrap (nb s 11 2 : Nat) = (nb s 11 2 : Nat) := u16_in _ (by omega)
  go_enter Tryd.func79, Tryd.ntmps79
  go_wp2_with fail
  have hZ : (#[.int .i64 0, .int .u8 0, .int .u8 0, .int .u16 0, .int .u16 0, .int .u16 0, .int .u8 0, .int .u16 0, .int .u16 0, .int .u16 0, .int .u8 0, .int .u16 0, .bool false, .int .u8 0, .int .u16 0, .int .u32 0, .int .u8 0, .int .u8 0, .string (⟨#[]⟩ : ByteArray)] : Array Value) = Fr.zero.cells := rfl
  rw [hZ]
  clear hZ
  generalize w.alloc (.cells Fr.zero.cells 49) = w1 at *

  go_upto_region 1 with fail
  go_cut [3] from 4 to 20 (fun s3 wx => ∃ g, s3 = .pointer (some ⟨g, 0, none⟩) ∧ ObjAt wx g (F6 (nb s 0 1 : Nat) (nb s 2 1 : Nat) (nb s 5 1 : Nat) (nb s 3 2 : Nat) (nb s 6 2 : Nat) (nb s 13 2 : Nat)) 49 ∧ ObjAt wx w.heap.size Fr.zero.cells 49 ∧ Below w.heap.size w wx ∧ w.heap.size < g)
  case first =>

    have hnew : ObjAt w1.drew w.heap.size Fr.zero.cells 49 ∧ Below w.heap.size w w1.drew := ⟨HR0.out, ⟨HB0.out.os, HB0.out.tape, HB0.out.output, HB0.out.size, HB0.out.block⟩⟩
    refine wp_region_any (by kernel_rfl) ?_
    change wpAny _ _ _ _ _ _ _ (World.drew w1)
    clear HR0 HB0
    generalize w1.drew = wd at *
    refine wpAny_take (i := 0) (v := ?v_1) rfl (by kernel_rfl) (by kernel_rfl) (by kernel_rfl) (fun _ _ _ h => h) (Or.inl ⟨by rfl, ?y_1⟩) ?r_1
    case y_1 => (intro w9; go_simp; try with_reducible rfl)
    refine wpAny_take (i := 1) (v := ?v_2) rfl (by kernel_rfl) (by kernel_rfl) (by kernel_rfl) (fun _ _ _ h => h) (Or.inl ⟨by rfl, ?y_2⟩) ?r_2
    case y_2 => (intro w9; go_simp; try with_reducible rfl)
    refine wpAny_take (i := 2) (v := ?v_3) rfl (by kernel_rfl) (by kernel_rfl) (by kernel_rfl) (fun _ _ _ h => h) (Or.inl ⟨by rfl, ?y_3⟩) ?r_3
    case y_3 => (intro w9; go_simp; try with_reducible rfl)
    refine wpAny_take (i := 3) (v := ?v_4) rfl (by kernel_rfl) (by kernel_rfl) (by kernel_rfl) (fun _ _ _ h => h) (Or.inl ⟨by rfl, ?y_4⟩) ?r_4
    case y_4 => (intro w9; go_simp; try with_reducible rfl)
    refine wpAny_take (i := 4) (v := ?v_5) rfl (by kernel_rfl) (by kernel_rfl) (by kernel_rfl) (fun _ _ _ h => h) (Or.inl ⟨by rfl, ?y_5⟩) ?r_5
    case y_5 => (intro w9; go_simp; try with_reducible rfl)
    refine wpAny_take (i := 5) (v := ?v_6) rfl (by kernel_rfl) (by kernel_rfl) (by kernel_rfl) (fun _ _ _ h => h) (Or.inl ⟨by rfl, ?y_6⟩) ?r_6
    case y_6 => (intro w9; go_simp; try with_reducible rfl)
    refine wpAny_take (i := 8) (v := ?v_7) rfl (by kernel_rfl) (by kernel_rfl) (by kernel_rfl) (fun _ _ _ h => h) (Or.inl ⟨by rfl, ?y_7⟩) ?r_7
    case y_7 => (intro w9; go_simp; try with_reducible rfl)
    refine wpAny_take (i := 9) (v := ?v_8) rfl (by kernel_rfl) (by kernel_rfl) (by kernel_rfl) (fun _ _ _ h => h) (Or.inl ⟨by rfl, ?y_8⟩) ?r_8
    case y_8 => (intro w9; go_simp; try with_reducible rfl)
    refine wpAny_take (i := 10) (v := ?v_9) rfl (by kernel_rfl) (by kernel_rfl) (by kernel_rfl) (fun _ _ _ h => h) (Or.inl ⟨by rfl, ?y_9⟩) ?r_9
    case y_9 => (intro w9; go_simp; try with_reducible rfl)
    refine wpAny_take (i := 13) (v := ?v_10) rfl (by kernel_rfl) (by kernel_rfl) (by kernel_rfl) (fun _ _ _ h => h) (Or.inl ⟨by rfl, ?y_10⟩) ?r_10
    case y_10 => (intro w9; go_simp; try with_reducible rfl)
    refine wpAny_ready (rs := [6, 17]) (by kernel_rfl) (by simp) ?_
    refine AllReady.cons rfl (fun K hK => ?s_11) ?m_11
    · go_simp
      go_at_call 96
      refine (number_two s 3 hs (by omega) 3 rfl _).mono ?_
      rintro e wn ⟨rfl, hbn⟩
      have hnew := both_call hnew hbn
      go_simp
      refine hK _ _ ?_
      clear hK K
      refine wpAny_take (i := 7) (v := ?v_12) rfl (by kernel_rfl) (by kernel_rfl) (by kernel_rfl) (fun _ _ _ h => h) (Or.inl ⟨by rfl, ?y_12⟩) ?r_12
      case y_12 => (intro w9; go_simp; try with_reducible rfl)
      refine wpAny_ready (rs := [11, 17]) (by kernel_rfl) (by simp) ?_
      refine AllReady.cons rfl (fun K hK => ?s_13) ?m_13
      · go_simp
        go_at_call 96
        refine (number_two s 6 hs (by omega) 6 rfl _).mono ?_
        rintro e wn ⟨rfl, hbn⟩
        have hnew := both_call hnew hbn
        go_simp
        refine hK _ _ ?_
        clear hK K
        refine wpAny_take (i := 12) (v := ?v_14) rfl (by kernel_rfl) (by kernel_rfl) (by kernel_rfl) (fun _ _ _ h => h) (Or.inl ⟨by rfl, ?y_14⟩) ?r_14
        case y_14 => (intro w9; go_simp; try with_reducible rfl)
        refine wpAny_ready (rs := [14, 17]) (by kernel_rfl) (by simp) ?_
        refine AllReady.cons rfl (fun K hK => ?s_15) ?m_15
        · go_simp
          go_at_call 96
          refine (number_two s 13 hs (by omega) 13 rfl _).mono ?_
          rintro e wn ⟨rfl, hbn⟩
          have hnew := both_call hnew hbn
          go_simp
          refine hK _ _ ?_
          clear hK K
          refine wpAny_take (i := 15) (v := ?v_16) rfl (by kernel_rfl) (by kernel_rfl) (by kernel_rfl) (fun _ _ _ h => h) (Or.inl ⟨by rfl, ?y_16⟩) ?r_16
          case y_16 => (intro w9; go_simp; try with_reducible rfl)
          refine wpAny_take (i := 16) (v := .agg (F6 (nb s 0 1 : Nat) (nb s 2 1 : Nat) (nb s 5 1 : Nat) (nb s 3 2 : Nat) (nb s 6 2 : Nat) (nb s 13 2 : Nat))) rfl (by kernel_rfl) (by kernel_rfl) (by kernel_rfl) (fun _ _ _ h => h) (yields_build rfl rfl (by kernel_rfl)) ?_
          refine wpAny_ready (rs := [17]) (by kernel_rfl) (by simp) ?_
          refine AllReady.cons rfl (fun K hK => ?s_18) ?m_18
          · go_simp
            refine hK _ _ ?_
            clear hK K
            have HNE := hnew.1.lt
            refine wpAny_ready (rs := [18]) (by kernel_rfl) (by simp) ?_
            refine AllReady.cons rfl (fun K hK => ?s_19) ?m_19
            · refine step_store rfl 49 _ _ rfl _ Fr.zero.cells (F6 (nb s 0 1 : Nat) (nb s 2 1 : Nat) (nb s 5 1 : Nat) (nb s 3 2 : Nat) (nb s 6 2 : Nat) (nb s 13 2 : Nat)) rfl rfl (new_obj _ Fr.zero.cells 49) (by kernel_rfl) rfl (by kernel_rfl) (fun w9 ho9 hk9 => ?_)
              have hnew9 := both_store (both_alloc hnew _) hk9 HNE
              refine hK _ _ ?_
              clear hK K
              refine wpAny_done (by kernel_rfl) ?_ _
              go_wp2_with fail
              go_meet
              exact ⟨_, rfl, ho9, hnew9.1, hnew9.2, HNE⟩
            exact AllReady.nil
          exact AllReady.nil
        refine AllReady.cons rfl (fun K hK => ?s_20) ?m_20
        · go_simp
          refine hK _ _ ?_
          clear hK K
          have HNE := hnew.1.lt
          refine wpAny_ready (rs := [14]) (by kernel_rfl) (by simp) ?_
          refine AllReady.cons rfl (fun K hK => ?s_21) ?m_21
          · go_simp
            go_at_call 96
            refine (number_two s 13 hs (by omega) 13 rfl _).mono ?_
            rintro e wn ⟨rfl, hbn⟩
            have hnew := both_call (both_alloc hnew _) hbn
            have HQ := obj_call (new_obj _ Fr.zero.cells 49) hbn
            go_simp
            refine hK _ _ ?_
            clear hK K
            refine wpAny_take (i := 15) (v := ?v_22) rfl (by kernel_rfl) (by kernel_rfl) (by kernel_rfl) (fun _ _ _ h => h) (Or.inl ⟨by rfl, ?y_22⟩) ?r_22
            case y_22 => (intro w9; go_simp; try with_reducible rfl)
            refine wpAny_take (i := 16) (v := .agg (F6 (nb s 0 1 : Nat) (nb s 2 1 : Nat) (nb s 5 1 : Nat) (nb s 3 2 : Nat) (nb s 6 2 : Nat) (nb s 13 2 : Nat))) rfl (by kernel_rfl) (by kernel_rfl) (by kernel_rfl) (fun _ _ _ h => h) (yields_build rfl rfl (by kernel_rfl)) ?_
            refine wpAny_ready (rs := [18]) (by kernel_rfl) (by simp) ?_
            refine AllReady.cons rfl (fun K hK => ?s_24) ?m_24
            · refine step_store rfl 49 _ _ rfl _ Fr.zero.cells (F6 (nb s 0 1 : Nat) (nb s 2 1 : Nat) (nb s 5 1 : Nat) (nb s 3 2 : Nat) (nb s 6 2 : Nat) (nb s 13 2 : Nat)) rfl rfl (HQ) (by kernel_rfl) rfl (by kernel_rfl) (fun w9 ho9 hk9 => ?_)
              have hnew9 := both_store hnew hk9 HNE
              refine hK _ _ ?_
              clear hK K
              refine wpAny_done (by kernel_rfl) ?_ _
              go_wp2_with fail
              go_meet
              exact ⟨_, rfl, ho9, hnew9.1, hnew9.2, HNE⟩
            exact AllReady.nil
          exact AllReady.nil
        exact AllReady.nil
      refine AllReady.cons rfl (fun K hK => ?s_25) ?m_25
      · go_simp
        refine hK _ _ ?_
        clear hK K
        have HNE := hnew.1.lt
        refine wpAny_ready (rs := [11]) (by kernel_rfl) (by simp) ?_
        refine AllReady.cons rfl (fun K hK => ?s_26) ?m_26
        · go_simp
          go_at_call 96
          refine (number_two s 6 hs (by omega) 6 rfl _).mono ?_
          rintro e wn ⟨rfl, hbn⟩
          have hnew := both_call (both_alloc hnew _) hbn
          have HQ := obj_call (new_obj _ Fr.zero.cells 49) hbn
          go_simp
          refine hK _ _ ?_
          clear hK K
          refine wpAny_take (i := 12) (v := ?v_27) rfl (by kernel_rfl) (by kernel_rfl) (by kernel_rfl) (fun _ _ _ h => h) (Or.inl ⟨by rfl, ?y_27⟩) ?r_27
          case y_27 => (intro w9; go_simp; try with_reducible rfl)
          refine wpAny_ready (rs := [14]) (by kernel_rfl) (by simp) ?_
          refine AllReady.cons rfl (fun K hK => ?s_28) ?m_28
          · go_simp
            go_at_call 96
            refine (number_two s 13 hs (by omega) 13 rfl _).mono ?_
            rintro e wn ⟨rfl, hbn⟩
            have hnew := both_call hnew hbn
            have HQ := obj_call HQ hbn
            go_simp
            refine hK _ _ ?_
            clear hK K
            refine wpAny_take (i := 15) (v := ?v_29) rfl (by kernel_rfl) (by kernel_rfl) (by kernel_rfl) (fun _ _ _ h => h) (Or.inl ⟨by rfl, ?y_29⟩) ?r_29
            case y_29 => (intro w9; go_simp; try with_reducible rfl)
            refine wpAny_take (i := 16) (v := .agg (F6 (nb s 0 1 : Nat) (nb s 2 1 : Nat) (nb s 5 1 : Nat) (nb s 3 2 : Nat) (nb s 6 2 : Nat) (nb s 13 2 : Nat))) rfl (by kernel_rfl) (by kernel_rfl) (by kernel_rfl) (fun _ _ _ h => h) (yields_build rfl rfl (by kernel_rfl)) ?_
            refine wpAny_ready (rs := [18]) (by kernel_rfl) (by simp) ?_
            refine AllReady.cons rfl (fun K hK => ?s_31) ?m_31
            · refine step_store rfl 49 _ _ rfl _ Fr.zero.cells (F6 (nb s 0 1 : Nat) (nb s 2 1 : Nat) (nb s 5 1 : Nat) (nb s 3 2 : Nat) (nb s 6 2 : Nat) (nb s 13 2 : Nat)) rfl rfl (HQ) (by kernel_rfl) rfl (by kernel_rfl) (fun w9 ho9 hk9 => ?_)
              have hnew9 := both_store hnew hk9 HNE
              refine hK _ _ ?_
              clear hK K
              refine wpAny_done (by kernel_rfl) ?_ _
              go_wp2_with fail
              go_meet
              exact ⟨_, rfl, ho9, hnew9.1, hnew9.2, HNE⟩
            exact AllReady.nil
          exact AllReady.nil
        exact AllReady.nil
      exact AllReady.nil
    refine AllReady.cons rfl (fun K hK => ?s_32) ?m_32
    · go_simp
      refine hK _ _ ?_
      clear hK K
      have HNE := hnew.1.lt
      refine wpAny_ready (rs := [6]) (by kernel_rfl) (by simp) ?_
      refine AllReady.cons rfl (fun K hK => ?s_33) ?m_33
      · go_simp
        go_at_call 96
        refine (number_two s 3 hs (by omega) 3 rfl _).mono ?_
        rintro e wn ⟨rfl, hbn⟩
        have hnew := both_call (both_alloc hnew _) hbn
        have HQ := obj_call (new_obj _ Fr.zero.cells 49) hbn
        go_simp
        refine hK _ _ ?_
        clear hK K
        refine wpAny_take (i := 7) (v := ?v_34) rfl (by kernel_rfl) (by kernel_rfl) (by kernel_rfl) (fun _ _ _ h => h) (Or.inl ⟨by rfl, ?y_34⟩) ?r_34
        case y_34 => (intro w9; go_simp; try with_reducible rfl)
        refine wpAny_ready (rs := [11]) (by kernel_rfl) (by simp) ?_
        refine AllReady.cons rfl (fun K hK => ?s_35) ?m_35
        · go_simp
          go_at_call 96
          refine (number_two s 6 hs (by omega) 6 rfl _).mono ?_
          rintro e wn ⟨rfl, hbn⟩
          have hnew := both_call hnew hbn
          have HQ := obj_call HQ hbn
          go_simp
          refine hK _ _ ?_
          clear hK K
          refine wpAny_take (i := 12) (v := ?v_36) rfl (by kernel_rfl) (by kernel_rfl) (by kernel_rfl) (fun _ _ _ h => h) (Or.inl ⟨by rfl, ?y_36⟩) ?r_36
          case y_36 => (intro w9; go_simp; try with_reducible rfl)
          refine wpAny_ready (rs := [14]) (by kernel_rfl) (by simp) ?_
          refine AllReady.cons rfl (fun K hK => ?s_37) ?m_37
          · go_simp
            go_at_call 96
            refine (number_two s 13 hs (by omega) 13 rfl _).mono ?_
            rintro e wn ⟨rfl, hbn⟩
            have hnew := both_call hnew hbn
            have HQ := obj_call HQ hbn
            go_simp
            refine hK _ _ ?_
            clear hK K
            refine wpAny_take (i := 15) (v := ?v_38) rfl (by kernel_rfl) (by kernel_rfl) (by kernel_rfl) (fun _ _ _ h => h) (Or.inl ⟨by rfl, ?y_38⟩) ?r_38
            case y_38 => (intro w9; go_simp; try with_reducible rfl)
            refine wpAny_take (i := 16) (v := .agg (F6 (nb s 0 1 : Nat) (nb s 2 1 : Nat) (nb s 5 1 : Nat) (nb s 3 2 : Nat) (nb s 6 2 : Nat) (nb s 13 2 : Nat))) rfl (by kernel_rfl) (by kernel_rfl) (by kernel_rfl) (fun _ _ _ h => h) (yields_build rfl rfl (by kernel_rfl)) ?_
            refine wpAny_ready (rs := [18]) (by kernel_rfl) (by simp) ?_
            refine AllReady.cons rfl (fun K hK => ?s_40) ?m_40
            · refine step_store rfl 49 _ _ rfl _ Fr.zero.cells (F6 (nb s 0 1 : Nat) (nb s 2 1 : Nat) (nb s 5 1 : Nat) (nb s 3 2 : Nat) (nb s 6 2 : Nat) (nb s 13 2 : Nat)) rfl rfl (HQ) (by kernel_rfl) rfl (by kernel_rfl) (fun w9 ho9 hk9 => ?_)
              have hnew9 := both_store hnew hk9 HNE
              refine hK _ _ ?_
              clear hK K
              refine wpAny_done (by kernel_rfl) ?_ _
              go_wp2_with fail
              go_meet
              exact ⟨_, rfl, ho9, hnew9.1, hnew9.2, HNE⟩
            exact AllReady.nil
          exact AllReady.nil
        exact AllReady.nil
      exact AllReady.nil
    exact AllReady.nil
  case rest =>
    obtain ⟨g, rfl, hc1, hc2, hc3, hc4⟩ := hcut
    obtain ⟨k, hk⟩ : ∃ k : Int, k = ((nb s 0 1 : Nat) : Int) := ⟨_, rfl⟩
    have ht : T3 w wc g (⟨k, ((nb s 2 1 : Nat) : Int), ((nb s 5 1 : Nat) : Int), ((nb s 3 2 : Nat) : Int), ((nb s 6 2 : Nat) : Int), 0, 0, 0, ((nb s 13 2 : Nat) : Int), 0, 0, 0, false, 0, 0, 0, 0, 0, ⟨#[]⟩⟩ : Fr).cells := ⟨by rw [hk]; exact hc1, hc2, hc3, hc4⟩
    clear hc1 hc2 hc3 HR0 HB0
    go_wp2_with fail
    refine wp_region_any (by kernel_rfl) ?_
    change wpAny _ _ _ _ _ _ _ (World.drew wc)
    have ht := t3_drew ht
    generalize wc.drew = wn at *
    refine wpAny_take (i := 0) (v := ?v_r1) rfl (by kernel_rfl) (by kernel_rfl) (by kernel_rfl) (fun _ _ _ h => h) (Or.inl ⟨by rfl, ?y_r1⟩) ?r_r1
    case y_r1 => (intro w9; go_simp; try with_reducible rfl)
    refine wpAny_take (i := 3) (v := ?v_r2) rfl (by kernel_rfl) (by kernel_rfl) (by kernel_rfl) (fun _ _ _ h => h) (Or.inl ⟨by rfl, ?y_r2⟩) ?r_r2
    case y_r2 => (intro w9; go_simp; try with_reducible rfl)
    refine wpAny_take (i := 4) (v := ?v_r3) rfl (by kernel_rfl) (by kernel_rfl) (by kernel_rfl) (fun _ _ _ h => h) (Or.inl ⟨by rfl, ?y_r3⟩) ?r_r3
    case y_r3 => (intro w9; go_simp; try with_reducible rfl)
    refine wpAny_take (i := 5) (v := ?v_r4) rfl (by kernel_rfl) (by kernel_rfl) (by kernel_rfl) (fun _ _ _ h => h) (Or.inl ⟨by rfl, ?y_r4⟩) ?r_r4
    case y_r4 => (intro w9; go_simp; try with_reducible rfl)
    refine wpAny_ready (rs := [1]) (by kernel_rfl) (by simp) ?_
    refine AllReady.cons rfl (fun K hK => ?s_r5) AllReady.nil
    go_simp
    go_at_call 96
    refine (number_two s 8 hs (by omega) 8 rfl _).mono ?_
    rintro e wn ⟨rfl, hbn⟩
    have ht := t3_call ht hbn
    go_simp
    refine hK _ _ ?_
    clear hK K
    refine wpAny_take (i := 2) (v := ?v_r6) rfl (by kernel_rfl) (by kernel_rfl) (by kernel_rfl) (fun _ _ _ h => h) (Or.inl ⟨by rfl, ?y_r6⟩) ?r_r6
    case y_r6 => (intro w9; go_simp; try with_reducible rfl)
    refine wpAny_ready (rs := [6]) (by kernel_rfl) (by simp) ?_
    refine AllReady.cons rfl (fun K hK => ?s_r7) AllReady.nil
    go_simp
    go_at_call 96
    refine (number_two s 11 hs (by omega) 11 rfl _).mono ?_
    rintro e wn ⟨rfl, hbn⟩
    have ht := t3_call ht hbn
    go_simp
    refine hK _ _ ?_
    clear hK K
    refine wpAny_take (i := 7) (v := ?v_r8) rfl (by kernel_rfl) (by kernel_rfl) (by kernel_rfl) (fun _ _ _ h => h) (Or.inl ⟨by rfl, ?y_r8⟩) ?r_r8
    case y_r8 => (intro w9; go_simp; try with_reducible rfl)
    refine wpAny_take (i := 8) (v := ?v_r9) rfl (by kernel_rfl) (by kernel_rfl) (by kernel_rfl) (fun _ _ _ h => h) (Or.inl ⟨by rfl, ?y_r9⟩) ?r_r9
    case y_r9 => (intro w9; go_simp; try with_reducible rfl)
    refine wpAny_take (i := 9) (v := ?v_r10) rfl (by kernel_rfl) (by kernel_rfl) (by kernel_rfl) (fun _ _ _ h => h) (Or.inl ⟨by rfl, ?y_r10⟩) ?r_r10
    case y_r10 => (intro w9; go_simp; try with_reducible rfl)
    refine wpAny_ready (rs := [10]) (by kernel_rfl) (by simp) ?_
    refine AllReady.cons rfl (fun K hK => ?s_r11) AllReady.nil
    have z5 := Fr.m5 rfl ht.1
    have y5 := ht.1.free 5
    have z6 := Fr.m6 rfl ht.1
    have y6 := ht.1.free 6
    have z7 := Fr.m7 rfl ht.1
    have y7 := ht.1.free 7
    go_simp
    refine hK _ _ ?_
    clear hK K
    have ht := t3_sets ht (show ObjAt (((wn.setCell ⟨g, 5, none⟩ (.int .u16 ((nb s 8 2 : Nat) : Int))).setCell ⟨g, 6, none⟩ (.int .u8 ((nb s 10 1 : Nat) : Int))).setCell ⟨g, 7, none⟩ (.int .u16 ((nb s 11 2 : Nat) : Int))) g (⟨k, ((nb s 2 1 : Nat) : Int), ((nb s 5 1 : Nat) : Int), ((nb s 3 2 : Nat) : Int), ((nb s 6 2 : Nat) : Int), ((nb s 8 2 : Nat) : Int), ((nb s 10 1 : Nat) : Int), ((nb s 11 2 : Nat) : Int), ((nb s 13 2 : Nat) : Int), 0, 0, 0, false, 0, 0, 0, 0, 0, ⟨#[]⟩⟩ : Fr).cells 49 from (Fr.st_ei (Fr.st_ea (Fr.st_ec ht.1 _) _) _)) ⟨by intro k hk; rw [heap_setCell_other _ _ k _ hk]; rw [heap_setCell_other _ _ k _ hk]; rw [heap_setCell_other _ _ k _ hk]; done, rfl, rfl, rfl, by simp⟩
    generalize (((wn.setCell ⟨g, 5, none⟩ (.int .u16 ((nb s 8 2 : Nat) : Int))).setCell ⟨g, 6, none⟩ (.int .u8 ((nb s 10 1 : Nat) : Int))).setCell ⟨g, 7, none⟩ (.int .u16 ((nb s 11 2 : Nat) : Int))) = w4 at *
    refine wpAny_done (by kernel_rfl) ?_ _
    clear z5 y5 z6 y6 z7 y7
    rcases (by omega : k = 3 ∨ k = 4 ∨ (¬ k = 3 ∧ ¬ k = 4)) with h3 | h4 | ⟨h3, h4⟩
    · have hn3 : nb s 0 1 = 3 := by omega
      have hsz := hk3 hn3
      have l15 := nb_lt s 15 2 (by decide)
      have l18 := nb_lt s 18 2 (by decide)
      have q15 : IntKind.u16.wrap (nb s 15 2 : Nat) = (nb s 15 2 : Nat) := u16_in _ (by omega)
      have q18 : IntKind.u16.wrap (nb s 18 2 : Nat) = (nb s 18 2 : Nat) := u16_in _ (by omega)
      have hz17 : 17 < s.size := by omega
      have hz20 : 20 < s.size := by omega
      have i17 : (17 : Int) < (s.size : Int) := by omega
      have i20 : (20 : Int) < (s.size : Int) := by omega
      have v17 : s[17].toNat = nb s 17 1 := (nb_one s 17 hz17).symm
      have v20 : s[20].toNat = nb s 20 1 := (nb_one s 20 hz20).symm
      have d0 : w4.cell? ⟨g, 0, none⟩ = some (.int .i64 3) := by rw [← h3]; exact Fr.m0 rfl ht.1
      go_wp2_with fail
      refine wp_region_any (by kernel_rfl) ?_
      change wpAny _ _ _ _ _ _ _ (World.drew w4)
      clear d0
      have ht := t3_drew ht
      generalize w4.drew = wn at *
      refine wpAny_take (i := 0) (v := ?v_r12) rfl (by kernel_rfl) (by kernel_rfl) (by kernel_rfl) (fun _ _ _ h => h) (Or.inl ⟨by rfl, ?y_r12⟩) ?r_r12
      case y_r12 => (intro w9; go_simp; try with_reducible rfl)
      refine wpAny_take (i := 3) (v := ?v_r13) rfl (by kernel_rfl) (by kernel_rfl) (by kernel_rfl) (fun _ _ _ h => h) (Or.inl ⟨by rfl, ?y_r13⟩) ?r_r13
      case y_r13 => (intro w9; go_simp; try with_reducible rfl)
      refine wpAny_take (i := 4) (v := ?v_r14) rfl (by kernel_rfl) (by kernel_rfl) (by kernel_rfl) (fun _ _ _ h => h) (Or.inl ⟨by rfl, ?y_r14⟩) ?r_r14
      case y_r14 => (intro w9; go_simp; try with_reducible rfl)
      refine wpAny_take (i := 5) (v := ?v_r15) rfl (by kernel_rfl) (by kernel_rfl) (by kernel_rfl) (fun _ _ _ h => h) (Or.inl ⟨by rfl, ?y_r15⟩) ?r_r15
      case y_r15 => (intro w9; go_simp; try with_reducible rfl)
      refine wpAny_ready (rs := [1]) (by kernel_rfl) (by simp) ?_
      refine AllReady.cons rfl (fun K hK => ?s_r16) AllReady.nil
      go_simp
      go_at_call 96
      refine (number_two s 15 hs (by omega) 15 rfl _).mono ?_
      rintro e wn ⟨rfl, hbn⟩
      have ht := t3_call ht hbn
      go_simp
      refine hK _ _ ?_
      clear hK K
      refine wpAny_take (i := 2) (v := ?v_r17) rfl (by kernel_rfl) (by kernel_rfl) (by kernel_rfl) (fun _ _ _ h => h) (Or.inl ⟨by rfl, ?y_r17⟩) ?r_r17
      case y_r17 => (intro w9; go_simp; try with_reducible rfl)
      refine wpAny_ready (rs := [6]) (by kernel_rfl) (by simp) ?_
      refine AllReady.cons rfl (fun K hK => ?s_r18) AllReady.nil
      go_simp
      go_at_call 96
      refine (number_two s 18 hs (by omega) 18 rfl _).mono ?_
      rintro e wn ⟨rfl, hbn⟩
      have ht := t3_call ht hbn
      go_simp
      refine hK _ _ ?_
      clear hK K
      refine wpAny_take (i := 7) (v := ?v_r19) rfl (by kernel_rfl) (by kernel_rfl) (by kernel_rfl) (fun _ _ _ h => h) (Or.inl ⟨by rfl, ?y_r19⟩) ?r_r19
      case y_r19 => (intro w9; go_simp; try with_reducible rfl)
      refine wpAny_take (i := 8) (v := ?v_r20) rfl (by kernel_rfl) (by kernel_rfl) (by kernel_rfl) (fun _ _ _ h => h) (Or.inl ⟨by rfl, ?y_r20⟩) ?r_r20
      case y_r20 => (intro w9; go_simp; try with_reducible rfl)
      refine wpAny_take (i := 9) (v := ?v_r21) rfl (by kernel_rfl) (by kernel_rfl) (by kernel_rfl) (fun _ _ _ h => h) (Or.inl ⟨by rfl, ?y_r21⟩) ?r_r21
      case y_r21 => (intro w9; go_simp; try with_reducible rfl)
      refine wpAny_ready (rs := [10]) (by kernel_rfl) (by simp) ?_
      refine AllReady.cons rfl (fun K hK => ?s_r22) AllReady.nil
      have z9 := Fr.m9 rfl ht.1
      have y9 := ht.1.free 9
      have z10 := Fr.m10 rfl ht.1
      have y10 := ht.1.free 10
      have z11 := Fr.m11 rfl ht.1
      have y11 := ht.1.free 11
      go_simp
      refine hK _ _ ?_
      clear hK K
      have ht := t3_sets ht (show ObjAt (((wn.setCell ⟨g, 9, none⟩ (.int .u16 ((nb s 15 2 : Nat) : Int))).setCell ⟨g, 10, none⟩ (.int .u8 ((nb s 17 1 : Nat) : Int))).setCell ⟨g, 11, none⟩ (.int .u16 ((nb s 18 2 : Nat) : Int))) g (⟨k, ((nb s 2 1 : Nat) : Int), ((nb s 5 1 : Nat) : Int), ((nb s 3 2 : Nat) : Int), ((nb s 6 2 : Nat) : Int), ((nb s 8 2 : Nat) : Int), ((nb s 10 1 : Nat) : Int), ((nb s 11 2 : Nat) : Int), ((nb s 13 2 : Nat) : Int), ((nb s 15 2 : Nat) : Int), ((nb s 17 1 : Nat) : Int), ((nb s 18 2 : Nat) : Int), false, 0, 0, 0, 0, 0, ⟨#[]⟩⟩ : Fr).cells 49 from (Fr.st_hi (Fr.st_ha (Fr.st_hc ht.1 _) _) _)) ⟨by intro k hk; rw [heap_setCell_other _ _ k _ hk]; rw [heap_setCell_other _ _ k _ hk]; rw [heap_setCell_other _ _ k _ hk]; done, rfl, rfl, rfl, by simp⟩
      generalize (((wn.setCell ⟨g, 9, none⟩ (.int .u16 ((nb s 15 2 : Nat) : Int))).setCell ⟨g, 10, none⟩ (.int .u8 ((nb s 17 1 : Nat) : Int))).setCell ⟨g, 11, none⟩ (.int .u16 ((nb s 18 2 : Nat) : Int))) = w5 at *
      refine wpAny_done (by kernel_rfl) ?_ _
      clear z9 y9 z10 y10 z11 y11
      have z12 := Fr.m12 rfl ht.1
      have y12 := ht.1.free 12
      have d0 : w5.cell? ⟨g, 0, none⟩ = some (.int .i64 3) := by rw [← h3]; exact Fr.m0 rfl ht.1
      obtain ⟨bb, hbb⟩ : ∃ b, b = (((nb s 20 1 : Nat) : Int) == 1) := ⟨_, rfl⟩
      have hk0 := Lib.hid hk
      clear hk hbb
      go_wp2_with ((with_reducible refine wpList_at 73 ?ho_h3 ?h_h3); (case ho_h3 => rfl); refine unhalt ?_)
      have ht := t3_sets ht (show ObjAt (w5.setCell ⟨g, 12, none⟩ (.bool (((nb s 20 1 : Nat) : Int) == 1))) g (⟨k, ((nb s 2 1 : Nat) : Int), ((nb s 5 1 : Nat) : Int), ((nb s 3 2 : Nat) : Int), ((nb s 6 2 : Nat) : Int), ((nb s 8 2 : Nat) : Int), ((nb s 10 1 : Nat) : Int), ((nb s 11 2 : Nat) : Int), ((nb s 13 2 : Nat) : Int), ((nb s 15 2 : Nat) : Int), ((nb s 17 1 : Nat) : Int), ((nb s 18 2 : Nat) : Int), (((nb s 20 1 : Nat) : Int) == 1), 0, 0, 0, 0, 0, ⟨#[]⟩⟩ : Fr).cells 49 from (Fr.st_w ht.1 _)) ⟨by intro k hk; rw [heap_setCell_other _ _ k _ hk]; done, rfl, rfl, rfl, by simp⟩
      generalize (w5.setCell ⟨g, 12, none⟩ (.bool (((nb s 20 1 : Nat) : Int) == 1))) = w6 at *
      clear d0
      clear z12 y12
      refine halt ?_
      have hg9 := setRow_heap w6 w.heap.size Fr.zero.cells (⟨k, ((nb s 2 1 : Nat) : Int), ((nb s 5 1 : Nat) : Int), ((nb s 3 2 : Nat) : Int), ((nb s 6 2 : Nat) : Int), ((nb s 8 2 : Nat) : Int), ((nb s 10 1 : Nat) : Int), ((nb s 11 2 : Nat) : Int), ((nb s 13 2 : Nat) : Int), ((nb s 15 2 : Nat) : Int), ((nb s 17 1 : Nat) : Int), ((nb s 18 2 : Nat) : Int), (((nb s 20 1 : Nat) : Int) == 1), 0, 0, 0, 0, 0, ⟨#[]⟩⟩ : Fr).cells 49 (0, 0) ht.2.1
      have hb9 := below_setRow ht.2.2.1 w.heap.size (Nat.le_refl _) (⟨k, ((nb s 2 1 : Nat) : Int), ((nb s 5 1 : Nat) : Int), ((nb s 3 2 : Nat) : Int), ((nb s 6 2 : Nat) : Int), ((nb s 8 2 : Nat) : Int), ((nb s 10 1 : Nat) : Int), ((nb s 11 2 : Nat) : Int), ((nb s 13 2 : Nat) : Int), ((nb s 15 2 : Nat) : Int), ((nb s 17 1 : Nat) : Int), ((nb s 18 2 : Nat) : Int), (((nb s 20 1 : Nat) : Int) == 1), 0, 0, 0, 0, 0, ⟨#[]⟩⟩ : Fr).cells
      have HO := Lib.hid ht.1
      have HZ := Lib.hid ht.2.1
      clear ht
      obtain ⟨CC, hCC⟩ : ∃ C, C = (⟨k, ((nb s 2 1 : Nat) : Int), ((nb s 5 1 : Nat) : Int), ((nb s 3 2 : Nat) : Int), ((nb s 6 2 : Nat) : Int), ((nb s 8 2 : Nat) : Int), ((nb s 10 1 : Nat) : Int), ((nb s 11 2 : Nat) : Int), ((nb s 13 2 : Nat) : Int), ((nb s 15 2 : Nat) : Int), ((nb s 17 1 : Nat) : Int), ((nb s 18 2 : Nat) : Int), (((nb s 20 1 : Nat) : Int) == 1), 0, 0, 0, 0, 0, ⟨#[]⟩⟩ : Fr).cells := ⟨_, rfl⟩
      rw [← hCC] at HO hg9 hb9
      have hCs := Fr.size hCC
      have HCC := Lib.hid hCC
      have HG9 := Lib.hid hg9
      have HB9 := Lib.hid hb9
      have hC1 : CC.all (·.oneCell') = true := by rw [hCC]; kernel_rfl
      have hCi : (Tryd.prog.info? 49).map (·.size) = some CC.size := by rw [hCs]; kernel_rfl
      have HCI := Lib.hid (And.intro hC1 hCi)
      clear hCC hC1 hCi hg9 hb9
      go_wp2_with (first
        | ((with_reducible refine wpList_frame (.tmp 3) ?ho_f1 ?hw_f1 g CC ?hx_f1 hCs ?hg_f1 ?h_f1); (case ho_f1 => rfl); (case hw_f1 => kernel_rfl); (case hx_f1 => rfl); (case hg_f1 => exact HO.out))
        | ((with_reducible refine wpList_store_row ?hgd_r1 49 (.tmp 2) (.tmp 73) ?ho_r1 w.heap.size CC ?hx_r1 ?hy_r1 49 Fr.zero.cells ?hg_r1 ?hi_r1 ?hold_r1 ?h1_r1 ?h_r1); (case ho_r1 => rfl); (case hgd_r1 => rfl); (case hx_r1 => rfl); (case hy_r1 => rfl); (case hg_r1 => exact HZ.out); (case hi_r1 => exact HCI.out.2); (case hold_r1 => rw [hCs]; rfl); (case h1_r1 => exact HCI.out.1)))
      refine bodyPost_ret (res_c rfl _ _ w.heap.size 49 CC (0, 0) _ rfl HG9.out Tryd.underlying49 rfl (by rw [hCs]; kernel_rfl)) rfl ?_
      refine ⟨?_, HB9.out⟩
      rw [HCC.out]
      have hk := hk0.out
      have e1 : (⟨k, ((nb s 2 1 : Nat) : Int), ((nb s 5 1 : Nat) : Int), ((nb s 3 2 : Nat) : Int), ((nb s 6 2 : Nat) : Int), ((nb s 8 2 : Nat) : Int), ((nb s 10 1 : Nat) : Int), ((nb s 11 2 : Nat) : Int), ((nb s 13 2 : Nat) : Int), ((nb s 15 2 : Nat) : Int), ((nb s 17 1 : Nat) : Int), ((nb s 18 2 : Nat) : Int), (((nb s 20 1 : Nat) : Int) == 1), 0, 0, 0, 0, 0, ⟨#[]⟩⟩ : Fr) = frF (s.extract 0 (s.size - 2)) := by
        unfold frF
        rw [nb_ext s (s.size - 2) 0 1 (by omega), nb_ext s (s.size - 2) 2 1 (by omega), nb_ext s (s.size - 2) 5 1 (by omega), nb_ext s (s.size - 2) 3 2 (by omega), nb_ext s (s.size - 2) 6 2 (by omega), nb_ext s (s.size - 2) 8 2 (by omega), nb_ext s (s.size - 2) 10 1 (by omega), nb_ext s (s.size - 2) 11 2 (by omega), nb_ext s (s.size - 2) 13 2 (by omega), nb_ext s (s.size - 2) 15 2 (by omega), nb_ext s (s.size - 2) 17 1 (by omega), nb_ext s (s.size - 2) 18 2 (by omega), nb_ext s (s.size - 2) 20 1 (by omega), ← hk]
        have a4 : ¬ nb s 0 1 = 4 := by omega
        simp [hn3]
        exact beq_one _
      rw [e1]
    · have hn4 : nb s 0 1 = 4 := by omega
      have hsz := hk4 hn4
      have l16 := nb_lt s 16 2 (by decide)
      have q16 : IntKind.u16.wrap (nb s 16 2 : Nat) = (nb s 16 2 : Nat) := u16_in _ (by omega)
      have hz15 : 15 < s.size := by omega
      have i15 : (15 : Int) < (s.size : Int) := by omega
      have v15 : s[15].toNat = nb s 15 1 := (nb_one s 15 hz15).symm
      have hz22 : 22 < s.size := by omega
      have i22 : (22 : Int) < (s.size : Int) := by omega
      have v22 : s[22].toNat = nb s 22 1 := (nb_one s 22 hz22).symm
      have hz23 : 23 < s.size := by omega
      have i23 : (23 : Int) < (s.size : Int) := by omega
      have v23 : s[23].toNat = nb s 23 1 := (nb_one s 23 hz23).symm
      have j1 : (24 : Int) ≤ (s.size : Int) - 2 := by omega
      have j2 : (s.size : Int) - 2 ≤ (s.size : Int) := by omega
      have d0 : w4.cell? ⟨g, 0, none⟩ = some (.int .i64 4) := by rw [← h4]; exact Fr.m0 rfl ht.1
      have z13 := Fr.m13 rfl ht.1
      have y13 := ht.1.free 13
      go_wp2_with fail
      have ht := t3_sets ht (show ObjAt (w4.setCell ⟨g, 13, none⟩ (.int .u8 ((nb s 15 1 : Nat) : Int))) g (⟨k, ((nb s 2 1 : Nat) : Int), ((nb s 5 1 : Nat) : Int), ((nb s 3 2 : Nat) : Int), ((nb s 6 2 : Nat) : Int), ((nb s 8 2 : Nat) : Int), ((nb s 10 1 : Nat) : Int), ((nb s 11 2 : Nat) : Int), ((nb s 13 2 : Nat) : Int), 0, 0, 0, false, ((nb s 15 1 : Nat) : Int), 0, 0, 0, 0, ⟨#[]⟩⟩ : Fr).cells 49 from (Fr.st_b ht.1 _)) ⟨by intro k hk; rw [heap_setCell_other _ _ k _ hk]; done, rfl, rfl, rfl, by simp⟩
      generalize (w4.setCell ⟨g, 13, none⟩ (.int .u8 ((nb s 15 1 : Nat) : Int))) = w5 at *
      clear d0 z13 y13
      refine (number_two s 16 hs (by omega) 16 rfl _).mono ?_
      rintro e wm ⟨rfl, hbm⟩
      have ht := t3_call ht hbm
      clear hbm
      go_wp2_with fail
      refine (number_four s 18 hs (by omega) 18 rfl _).mono ?_
      rintro e wo ⟨rfl, hbo⟩
      have ht := t3_call ht hbo
      clear hbo
      have z14 := Fr.m14 rfl ht.1
      have y14 := ht.1.free 14
      have z15 := Fr.m15 rfl ht.1
      have y15 := ht.1.free 15
      have z16 := Fr.m16 rfl ht.1
      have y16 := ht.1.free 16
      have z17 := Fr.m17 rfl ht.1
      have y17 := ht.1.free 17
      have z18 := Fr.m18 rfl ht.1
      have y18 := ht.1.free 18
      go_wp2_with ((with_reducible refine wpList_at 73 ?ho_h4 ?h_h4); (case ho_h4 => rfl); refine unhalt ?_)
      have ht := t3_sets ht (show ObjAt (((((wo.setCell ⟨g, 14, none⟩ (.int .u16 ((nb s 16 2 : Nat) : Int))).setCell ⟨g, 15, none⟩ (.int .u32 ((nb s 18 4 : Nat) : Int))).setCell ⟨g, 16, none⟩ (.int .u8 ((nb s 22 1 : Nat) : Int))).setCell ⟨g, 17, none⟩ (.int .u8 ((nb s 23 1 : Nat) : Int))).setCell ⟨g, 18, none⟩ (.string (s.extract 24 (s.size - 2)))) g (⟨k, ((nb s 2 1 : Nat) : Int), ((nb s 5 1 : Nat) : Int), ((nb s 3 2 : Nat) : Int), ((nb s 6 2 : Nat) : Int), ((nb s 8 2 : Nat) : Int), ((nb s 10 1 : Nat) : Int), ((nb s 11 2 : Nat) : Int), ((nb s 13 2 : Nat) : Int), 0, 0, 0, false, ((nb s 15 1 : Nat) : Int), ((nb s 16 2 : Nat) : Int), ((nb s 18 4 : Nat) : Int), ((nb s 22 1 : Nat) : Int), ((nb s 23 1 : Nat) : Int), (s.extract 24 (s.size - 2))⟩ : Fr).cells 49 from (Fr.st_t (Fr.st_q (Fr.st_p (Fr.st_vs (Fr.st_vi ht.1 _) _) _) _) _)) ⟨by intro k hk; rw [heap_setCell_other _ _ k _ hk]; rw [heap_setCell_other _ _ k _ hk]; rw [heap_setCell_other _ _ k _ hk]; rw [heap_setCell_other _ _ k _ hk]; rw [heap_setCell_other _ _ k _ hk]; done, rfl, rfl, rfl, by simp⟩
      generalize (((((wo.setCell ⟨g, 14, none⟩ (.int .u16 ((nb s 16 2 : Nat) : Int))).setCell ⟨g, 15, none⟩ (.int .u32 ((nb s 18 4 : Nat) : Int))).setCell ⟨g, 16, none⟩ (.int .u8 ((nb s 22 1 : Nat) : Int))).setCell ⟨g, 17, none⟩ (.int .u8 ((nb s 23 1 : Nat) : Int))).setCell ⟨g, 18, none⟩ (.string (s.extract 24 (s.size - 2)))) = w6 at *
      clear z14 y14 z15 y15 z16 y16 z17 y17 z18 y18
      refine halt ?_
      have hk0 := Lib.hid hk
      clear hk
      have hg9 := setRow_heap w6 w.heap.size Fr.zero.cells (⟨k, ((nb s 2 1 : Nat) : Int), ((nb s 5 1 : Nat) : Int), ((nb s 3 2 : Nat) : Int), ((nb s 6 2 : Nat) : Int), ((nb s 8 2 : Nat) : Int), ((nb s 10 1 : Nat) : Int), ((nb s 11 2 : Nat) : Int), ((nb s 13 2 : Nat) : Int), 0, 0, 0, false, ((nb s 15 1 : Nat) : Int), ((nb s 16 2 : Nat) : Int), ((nb s 18 4 : Nat) : Int), ((nb s 22 1 : Nat) : Int), ((nb s 23 1 : Nat) : Int), (s.extract 24 (s.size - 2))⟩ : Fr).cells 49 (0, 0) ht.2.1
      have hb9 := below_setRow ht.2.2.1 w.heap.size (Nat.le_refl _) (⟨k, ((nb s 2 1 : Nat) : Int), ((nb s 5 1 : Nat) : Int), ((nb s 3 2 : Nat) : Int), ((nb s 6 2 : Nat) : Int), ((nb s 8 2 : Nat) : Int), ((nb s 10 1 : Nat) : Int), ((nb s 11 2 : Nat) : Int), ((nb s 13 2 : Nat) : Int), 0, 0, 0, false, ((nb s 15 1 : Nat) : Int), ((nb s 16 2 : Nat) : Int), ((nb s 18 4 : Nat) : Int), ((nb s 22 1 : Nat) : Int), ((nb s 23 1 : Nat) : Int), (s.extract 24 (s.size - 2))⟩ : Fr).cells
      have HO := Lib.hid ht.1
      have HZ := Lib.hid ht.2.1
      clear ht
      obtain ⟨CC, hCC⟩ : ∃ C, C = (⟨k, ((nb s 2 1 : Nat) : Int), ((nb s 5 1 : Nat) : Int), ((nb s 3 2 : Nat) : Int), ((nb s 6 2 : Nat) : Int), ((nb s 8 2 : Nat) : Int), ((nb s 10 1 : Nat) : Int), ((nb s 11 2 : Nat) : Int), ((nb s 13 2 : Nat) : Int), 0, 0, 0, false, ((nb s 15 1 : Nat) : Int), ((nb s 16 2 : Nat) : Int), ((nb s 18 4 : Nat) : Int), ((nb s 22 1 : Nat) : Int), ((nb s 23 1 : Nat) : Int), (s.extract 24 (s.size - 2))⟩ : Fr).cells := ⟨_, rfl⟩
      rw [← hCC] at HO hg9 hb9
      have hCs := Fr.size hCC
      have HCC := Lib.hid hCC
      have HG9 := Lib.hid hg9
      have HB9 := Lib.hid hb9
      have hC1 : CC.all (·.oneCell') = true := by rw [hCC]; kernel_rfl
      have hCi : (Tryd.prog.info? 49).map (·.size) = some CC.size := by rw [hCs]; kernel_rfl
      have HCI := Lib.hid (And.intro hC1 hCi)
      clear hCC hC1 hCi hg9 hb9
      go_wp2_with (first
        | ((with_reducible refine wpList_frame (.tmp 3) ?ho_f2 ?hw_f2 g CC ?hx_f2 hCs ?hg_f2 ?h_f2); (case ho_f2 => rfl); (case hw_f2 => kernel_rfl); (case hx_f2 => rfl); (case hg_f2 => exact HO.out))
        | ((with_reducible refine wpList_store_row ?hgd_r2 49 (.tmp 2) (.tmp 73) ?ho_r2 w.heap.size CC ?hx_r2 ?hy_r2 49 Fr.zero.cells ?hg_r2 ?hi_r2 ?hold_r2 ?h1_r2 ?h_r2); (case ho_r2 => rfl); (case hgd_r2 => rfl); (case hx_r2 => rfl); (case hy_r2 => rfl); (case hg_r2 => exact HZ.out); (case hi_r2 => exact HCI.out.2); (case hold_r2 => rw [hCs]; rfl); (case h1_r2 => exact HCI.out.1)))
      refine bodyPost_ret (res_c rfl _ _ w.heap.size 49 CC (0, 0) _ rfl HG9.out Tryd.underlying49 rfl (by rw [hCs]; kernel_rfl)) rfl ?_
      refine ⟨?_, HB9.out⟩
      rw [HCC.out]
      have hk := hk0.out
      have e1 : (⟨k, ((nb s 2 1 : Nat) : Int), ((nb s 5 1 : Nat) : Int), ((nb s 3 2 : Nat) : Int), ((nb s 6 2 : Nat) : Int), ((nb s 8 2 : Nat) : Int), ((nb s 10 1 : Nat) : Int), ((nb s 11 2 : Nat) : Int), ((nb s 13 2 : Nat) : Int), 0, 0, 0, false, ((nb s 15 1 : Nat) : Int), ((nb s 16 2 : Nat) : Int), ((nb s 18 4 : Nat) : Int), ((nb s 22 1 : Nat) : Int), ((nb s 23 1 : Nat) : Int), (s.extract 24 (s.size - 2))⟩ : Fr) = frF (s.extract 0 (s.size - 2)) := by
        unfold frF
        rw [nb_ext s (s.size - 2) 0 1 (by omega), nb_ext s (s.size - 2) 2 1 (by omega), nb_ext s (s.size - 2) 5 1 (by omega), nb_ext s (s.size - 2) 3 2 (by omega), nb_ext s (s.size - 2) 6 2 (by omega), nb_ext s (s.size - 2) 8 2 (by omega), nb_ext s (s.size - 2) 10 1 (by omega), nb_ext s (s.size - 2) 11 2 (by omega), nb_ext s (s.size - 2) 13 2 (by omega), nb_ext s (s.size - 2) 15 1 (by omega), nb_ext s (s.size - 2) 16 2 (by omega), nb_ext s (s.size - 2) 18 4 (by omega), nb_ext s (s.size - 2) 22 1 (by omega), nb_ext s (s.size - 2) 23 1 (by omega), ← hk, ext_tail s 24]
        have a3 : ¬ nb s 0 1 = 3 := by omega
        simp [hn4]
      rw [e1]
    · have hk0 := Lib.hid hk
      clear hk
      have d0 := Fr.m0 rfl ht.1
      have b3 : (k == 3) = false := by simp [h3]
      have b4 : (k == 4) = false := by simp [h4]
      have hg9 := setRow_heap w4 w.heap.size Fr.zero.cells (⟨k, ((nb s 2 1 : Nat) : Int), ((nb s 5 1 : Nat) : Int), ((nb s 3 2 : Nat) : Int), ((nb s 6 2 : Nat) : Int), ((nb s 8 2 : Nat) : Int), ((nb s 10 1 : Nat) : Int), ((nb s 11 2 : Nat) : Int), ((nb s 13 2 : Nat) : Int), 0, 0, 0, false, 0, 0, 0, 0, 0, ⟨#[]⟩⟩ : Fr).cells 49 (0, 0) ht.2.1
      have hb9 := below_setRow ht.2.2.1 w.heap.size (Nat.le_refl _) (⟨k, ((nb s 2 1 : Nat) : Int), ((nb s 5 1 : Nat) : Int), ((nb s 3 2 : Nat) : Int), ((nb s 6 2 : Nat) : Int), ((nb s 8 2 : Nat) : Int), ((nb s 10 1 : Nat) : Int), ((nb s 11 2 : Nat) : Int), ((nb s 13 2 : Nat) : Int), 0, 0, 0, false, 0, 0, 0, 0, 0, ⟨#[]⟩⟩ : Fr).cells
      have HO := Lib.hid ht.1
      have HZ := Lib.hid ht.2.1
      clear ht
      obtain ⟨CC, hCC⟩ : ∃ C, C = (⟨k, ((nb s 2 1 : Nat) : Int), ((nb s 5 1 : Nat) : Int), ((nb s 3 2 : Nat) : Int), ((nb s 6 2 : Nat) : Int), ((nb s 8 2 : Nat) : Int), ((nb s 10 1 : Nat) : Int), ((nb s 11 2 : Nat) : Int), ((nb s 13 2 : Nat) : Int), 0, 0, 0, false, 0, 0, 0, 0, 0, ⟨#[]⟩⟩ : Fr).cells := ⟨_, rfl⟩
      rw [← hCC] at HO hg9 hb9
      have hCs := Fr.size hCC
      have HCC := Lib.hid hCC
      have HG9 := Lib.hid hg9
      have HB9 := Lib.hid hb9
      have hC1 : CC.all (·.oneCell') = true := by rw [hCC]; kernel_rfl
      have hCi : (Tryd.prog.info? 49).map (·.size) = some CC.size := by rw [hCs]; kernel_rfl
      have HCI := Lib.hid (And.intro hC1 hCi)
      clear hCC hC1 hCi hg9 hb9
      go_wp2_with (first
        | ((with_reducible refine wpList_frame (.tmp 3) ?ho_f3 ?hw_f3 g CC ?hx_f3 hCs ?hg_f3 ?h_f3); (case ho_f3 => rfl); (case hw_f3 => kernel_rfl); (case hx_f3 => rfl); (case hg_f3 => exact HO.out))
        | ((with_reducible refine wpList_store_row ?hgd_r3 49 (.tmp 2) (.tmp 73) ?ho_r3 w.heap.size CC ?hx_r3 ?hy_r3 49 Fr.zero.cells ?hg_r3 ?hi_r3 ?hold_r3 ?h1_r3 ?h_r3); (case ho_r3 => rfl); (case hgd_r3 => rfl); (case hx_r3 => rfl); (case hy_r3 => rfl); (case hg_r3 => exact HZ.out); (case hi_r3 => exact HCI.out.2); (case hold_r3 => rw [hCs]; rfl); (case h1_r3 => exact HCI.out.1)))
      refine bodyPost_ret (res_c rfl _ _ w.heap.size 49 CC (0, 0) _ rfl HG9.out Tryd.underlying49 rfl (by rw [hCs]; kernel_rfl)) rfl ?_
      refine ⟨?_, HB9.out⟩
      rw [HCC.out]
      have hk := hk0.out
      have hm : s.size - 2 ≤ s.size := by omega
      have e1 : (⟨k, ((nb s 2 1 : Nat) : Int), ((nb s 5 1 : Nat) : Int), ((nb s 3 2 : Nat) : Int), ((nb s 6 2 : Nat) : Int), ((nb s 8 2 : Nat) : Int), ((nb s 10 1 : Nat) : Int), ((nb s 11 2 : Nat) : Int), ((nb s 13 2 : Nat) : Int), 0, 0, 0, false, 0, 0, 0, 0, 0, ⟨#[]⟩⟩ : Fr) = frF (s.extract 0 (s.size - 2)) := by
        unfold frF
        rw [nb_ext s (s.size - 2) 0 1 (by omega), nb_ext s (s.size - 2) 2 1 (by omega), nb_ext s (s.size - 2) 5 1 (by omega), nb_ext s (s.size - 2) 3 2 (by omega), nb_ext s (s.size - 2) 6 2 (by omega), nb_ext s (s.size - 2) 8 2 (by omega), nb_ext s (s.size - 2) 10 1 (by omega), nb_ext s (s.size - 2) 11 2 (by omega), nb_ext s (s.size - 2) 13 2 (by omega), ← hk]
        have a3 : ¬ nb s 0 1 = 3 := by omega
        have a4 : ¬ nb s 0 1 = 4 := by omega
        simp [a3, a4]
      rw [e1]
end Go.Proofs.YtmehafolnpkmhaaDoor
