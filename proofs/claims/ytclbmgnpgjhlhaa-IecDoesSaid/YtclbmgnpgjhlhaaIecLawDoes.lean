/- The law IecDoes: what an operation makes of two values of a kind, or the error, is the document's; so is Not. -/
import Derived.Test.YtclbmgnpgjhlhaaIecAwake
import Derived.Test.YtclbmgnpgjhlhaaIecRefDo
import Derived.Test.YtclbmgnpgjhlhaaArr
namespace Go.Proofs.Ytclbmgnpgjhlhaa
open Go.RowKit
set_option maxRecDepth 100000 in
set_option maxHeartbeats 2000000 in
theorem iecDoes_walk {H : Type} {enc : TypeId × Value → H} (op : Int) (wop : (Lit.int .i64 op).wf = true) (k : Int) (wk : (Lit.int .i64 k).wf = true) (v : Value) (d : DataW H) (p : List MemPlace) {w : World}
    (h : DataW.Trod enc Try.prog w 0 (fun _ => true) true 22 v d p) (o : Value.okWide Try.prog w .any 0 22 v) (_ : ∀ x ∈ d.weights Try.prog 22, x ≤ 140737488351232) (_ : World) :
    Calls Try.prog 3 #[.int .i64 op, .int .i64 k, v] w fun e w' => e = .returned (.bool true) ∧ Below w.heap.size w w' := by
  obtain ⟨l, hl, rfl, -⟩ := arr_of (k := .i64) Try.underlying22 Try.underlying2 (by kernel_rfl) (by kernel_rfl) h o
  clear h o wop wk
  match l, hl with
  | [a, b], _ =>
  have hX := ObjAt.new w #[.int .i64 a, .int .i64 b] 22
  have hbx := (Below.refl w.heap.size w).alloc (Nat.le_refl _) (.cells #[.int .i64 a, .int .i64 b] 22)
  have HX := Lib.hid (And.intro hX hbx)
  clear hX hbx
  go_enter Try.func3, Try.ntmps3
  go_wp2_with fail
  refine (iawake_any _).mono ?_
  rintro e w1 ⟨rfl, hb1⟩
  have c0 : w1.cell? ⟨w.heap.size, 0, none⟩ = some (.int .i64 a) := (below_obj hb1 HX.out.1).cell 0
  have c1 : w1.cell? ⟨w.heap.size, 1, none⟩ = some (.int .i64 b) := (below_obj hb1 HX.out.1).cell 1
  have H1 := Lib.hid (And.intro (below_obj hb1 HX.out.1) (HX.out.2.trans (hb1.mono HX.out.2.size)))
  clear hb1
  go_wp2_with fail
  refine wp_loop_rounds 3 ?_
  rw [rounds_succ]
  go_wp2_with fail
  go_quiet (fail)
  have H2 : Hid (Below w.heap.size w (w1.drewN nq) ∧ ObjAt (w1.drewN nq) w.heap.size #[.int .i64 a, .int .i64 b] 22) := Lib.hid ⟨⟨H1.out.2.os, H1.out.2.tape, H1.out.2.output, H1.out.2.size, H1.out.2.block⟩, H1.out.1.drewN nq⟩
  clear c0 c1
  generalize w1.drewN nq = w2 at *
  go_wp2_with fail
  refine (do_any op k a b _).mono ?_
  rintro e w3 ⟨rfl, hb3⟩
  go_wp2_with fail
  refine (rdo_any op k a b _).mono ?_
  rintro e w4 ⟨rfl, hb4⟩
  go_wp2_with fail
  refine (not_any k a _).mono ?_
  rintro e w5 ⟨rfl, hb5⟩
  go_wp2_with fail
  refine (rnot_any k a _).mono ?_
  rintro e w6 ⟨rfl, hb6⟩
  have hb := bt (bt (bt hb3 hb4) hb5) hb6
  have c0 : w6.cell? ⟨w.heap.size, 0, none⟩ = some (.int .i64 a) := (below_obj hb H2.out.2).cell 0
  have c1 : w6.cell? ⟨w.heap.size, 1, none⟩ = some (.int .i64 b) := (below_obj hb H2.out.2).cell 1
  have H6 := Lib.hid (bt H2.out.1 hb)
  clear hb3 hb4 hb5 hb6 hb
  go_wp2_with fail
  rw [rounds_succ]
  go_wp2_with fail
  go_quiet (fail)
  have H7 : Hid (Below w.heap.size w (w6.drewN nq)) := Lib.hid ⟨H6.out.os, H6.out.tape, H6.out.output, H6.out.size, H6.out.block⟩
  clear c0 c1
  generalize w6.drewN nq = w7 at *
  go_wp2_with fail
  refine (rwrap_any k a _).mono ?_
  rintro e w8 ⟨rfl, hb8⟩
  go_wp2_with fail
  refine (rwrap_any k b _).mono ?_
  rintro e w9 ⟨rfl, hb9⟩
  go_wp2_with fail
  refine (do_any op k _ _ _).mono ?_
  rintro e w10 ⟨rfl, hb10⟩
  go_wp2_with fail
  refine (rdo_any op k _ _ _).mono ?_
  rintro e w11 ⟨rfl, hb11⟩
  go_wp2_with fail
  refine (not_any k _ _).mono ?_
  rintro e w12 ⟨rfl, hb12⟩
  go_wp2_with fail
  refine (rnot_any k _ _).mono ?_
  rintro e w13 ⟨rfl, hb13⟩
  have H13 := Lib.hid (bt (bt (bt (bt (bt (bt H7.out hb8) hb9) hb10) hb11) hb12) hb13)
  clear hb8 hb9 hb10 hb11 hb12 hb13
  go_wp2_with fail
  rw [rounds_succ]
  go_wp2_with fail
  refine (may_any op k _).mono ?_
  rintro e w14 ⟨rfl, hb14⟩
  go_wp2_with fail
  refine (rmay_any op k _).mono ?_
  rintro e w15 ⟨rfl, hb15⟩
  go_wp2
  go_ret
  exact ⟨ret_bool (by simp), bt (bt H13.out hb14) hb15⟩
end Go.Proofs.Ytclbmgnpgjhlhaa
