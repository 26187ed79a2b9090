/- awake. -/
import Derived.Test.YtmehafolnpkmhaaDoorFraPln
import Derived.Test.YtmehafolnpkmhaaDoorFraTxt
import Derived.Test.YtmehafolnpkmhaaDoorFraEnc
namespace Go.Proofs.YtmehafolnpkmhaaDoor
open Go.RowKit
theorem encode_ok (C : Array Value) (f : Fr) (h : C = f.cells) (hok : f.ok) (hr : rightP f) (s : ByteArray) (hs : s = encF f) (w : World) :
    Calls Tryd.prog 41 #[.agg C] w fun e w' => e = .returned (.tuple #[.string s, .int .i64 0]) ∧ Below w.heap.size w w' := by
  have := encode_any C f h hok (by have := right_t hr; omega) w
  rw [if_pos hr, ← hs] at this
  exact this
theorem encode_no (C : Array Value) (f : Fr) (h : C = f.cells) (hok : f.ok) (hts : f.t.size ≤ 140737488355328) (hr : ¬ rightP f) (w : World) :
    Calls Tryd.prog 41 #[.agg C] w fun e w' => e = .returned (.tuple #[.string (⟨#[]⟩ : ByteArray), .int .i64 3]) ∧ Below w.heap.size w w' := by
  have := encode_any C f h hok hts w
  rw [if_neg hr, show encF f = ⟨#[]⟩ by unfold encF; rw [if_neg hr]] at this
  exact this
theorem decode_ok (C : Array Value) (f : Fr) (h : C = f.cells) (hok : f.ok) (hr : rightP f) (s : ByteArray) (hs : s = encF f) (w : World) :
    Calls Tryd.prog 47 #[.string s] w fun e w' => e = .returned (.tuple #[.agg C, .int .i64 0]) ∧ Below w.heap.size w w' := by
  have h1 := enc_size hr
  have h2 := right_bd hr
  rw [← hs] at h1
  have := decode_any s (by omega) w
  rw [hs, dec_enc hr hok, ← h, ← hs] at this
  exact this
theorem decode_no (CZ : Array Value) (h : CZ = Fr.zero.cells) (s : ByteArray) (hs : s.size ≤ 140737488355328) (n : Int) (hd : decF s = (Fr.zero, n)) (w : World) :
    Calls Tryd.prog 47 #[.string s] w fun e w' => e = .returned (.tuple #[.agg CZ, .int .i64 n]) ∧ Below w.heap.size w w' := by
  have := decode_any s hs w
  rw [hd, ← h] at this
  exact this
def tokF : Fr := ⟨1, 3, 5, 1, 2, 8, 3, 1, 4, 0, 0, 0, false, 0, 0, 0, 0, 0, ⟨#[]⟩⟩
def tokC : Array Value := tokF.cells
theorem tokC_size : tokC.size = 19 := rfl
theorem tok_right : rightP tokF := by
  refine ⟨by decide, by decide, by decide, by decide, ?_⟩
  rw [if_neg (by decide)]
  exact ⟨rfl, rfl, rfl, rfl, rfl, (toList_none _).2 rfl⟩
theorem tok_ok : tokF.ok := by constructor <;> decide
theorem dg1 (n : Nat) (h : n < 10) : dgB (n : Int) = ⟨#[UInt8.ofNat (48 + n)]⟩ := by
  unfold dgB
  rw [Int.toNat_natCast, Lib.decDigits_one h]
theorem tok_text : textF tokF = ⟨#[116, 111, 107, 101, 110, 32, 51, 32, 62, 32, 53, 32, 56, 46, 51, 46, 49, 47, 52]⟩ := by
  have e1 : dgB 1 = ⟨#[49]⟩ := dg1 1 (by decide)
  have e3 : dgB 3 = ⟨#[51]⟩ := dg1 3 (by decide)
  have e4 : dgB 4 = ⟨#[52]⟩ := dg1 4 (by decide)
  have e5 : dgB 5 = ⟨#[53]⟩ := dg1 5 (by decide)
  have e8 : dgB 8 = ⟨#[56]⟩ := dg1 8 (by decide)
  have h : textF tokF = (shapeF 1).1 ++ (⟨#[32]⟩ : ByteArray) ++ dgB 3 ++ (⟨#[32, 62, 32]⟩ : ByteArray) ++ dgB 5 ++ (⟨#[32]⟩ : ByteArray) ++ (dgB 8 ++ ⟨#[46]⟩ ++ dgB 3 ++ ⟨#[46]⟩ ++ dgB 1) ++ (⟨#[47]⟩ : ByteArray) ++ dgB 4 := rfl
  rw [h, e1, e3, e4, e5, e8]
  decide
theorem tok_size : sizeF tokF = 17 := by
  unfold sizeF
  rw [if_pos tok_right]
  decide
set_option maxRecDepth 100000 in
set_option maxHeartbeats 8000000 in
theorem awake_any (w : World) (hL : LaidW w) :
    Calls Tryd.prog 40 #[] w fun e w' => e = .returned (.bool true) ∧ Below w.heap.size w w' := by
  obtain ⟨s, hs⟩ : ∃ s, s = encF tokF := ⟨_, rfl⟩
  have hz : (s.size : Int) = 17 := by rw [hs, enc_size tok_right, tok_size]
  have HS := Lib.hid hs
  clear hs
  have HOa := Lib.hid (ObjAt.new w tokC 49)
  have HXa := Lib.hid ((Below.refl w.heap.size w).alloc (Nat.le_refl _) (.cells tokC 49))
  go_enter Tryd.func40, Tryd.ntmps40
  go_wp2_with (first
    | ((with_reducible refine wpList_build_to ?hgd_p 49 ?parts_p ?ho_p tokC ?hc_p ?h_p); (case ho_p => rfl); (case hgd_p => rfl); (case hc_p => kernel_rfl))
    | ((with_reducible refine wpList_store_new ?hgd_s 49 ?x_s ?y_s ?ho_s w.heap.size ?c_s tokC ?hg_s ?hx_s ?hy_s ?hi_s ?hs_s ?h1_s ?h_s); (case ho_s => rfl); (case hgd_s => rfl); (case hg_s => rfl); (case hx_s => rfl); (case hy_s => rfl); (case hi_s => kernel_rfl); (case hs_s => kernel_rfl); (case h1_s => kernel_rfl); refine unhalt ?_))
  generalize w.alloc (.cells tokC 49) = wa at *
  generalize hgg : w.heap.size = g at *
  have HGG := Lib.hid hgg
  clear hgg
  refine halt ?_
  go_wp2_with ((with_reducible refine wpList_frame (.tmp 1) ?ho_a ?hw_a g tokC ?hx_a tokC_size ?hg_a ?h_a); (case ho_a => rfl); (case hw_a => kernel_rfl); (case hx_a => rfl); (case hg_a => exact HOa.out))
  refine (encode_ok tokC tokF rfl tok_ok tok_right s HS.out _).mono ?_
  rintro e w1 ⟨rfl, hb1⟩
  have HO1 := Lib.hid (obj_call HOa.out hb1)
  have HX1 := Lib.hid (HXa.out.trans (hb1.mono (Nat.le_of_lt HOa.out.lt)))
  clear hb1 HOa HXa
  go_wp2_with fail
  refine (decode_ok tokC tokF rfl tok_ok tok_right s HS.out _).mono ?_
  rintro e w2 ⟨rfl, hb2⟩
  have HO2 := Lib.hid (obj_call HO1.out hb2)
  have HX2 := Lib.hid (HX1.out.trans (hb2.mono (Nat.le_of_lt HO1.out.lt)))
  clear hb2 HO1 HX1
  go_wp2_with ((with_reducible refine wpList_store_new ?hgd_t 49 ?x_t ?y_t ?ho_t w2.heap.size ?c_t tokC ?hg_t ?hx_t ?hy_t ?hi_t ?hs_t ?h1_t ?h_t); (case ho_t => rfl); (case hgd_t => rfl); (case hg_t => rfl); (case hx_t => rfl); (case hy_t => rfl); (case hi_t => kernel_rfl); (case hs_t => kernel_rfl); (case h1_t => kernel_rfl); refine unhalt ?_)
  have HO3 := Lib.hid (HO2.out.alloc (.cells tokC 49))
  have HP3 := Lib.hid (ObjAt.new w2 tokC 49)
  have HX3 := Lib.hid (HX2.out.alloc (Nat.le_of_lt HO2.out.lt) (.cells tokC 49))
  generalize w2.alloc (.cells tokC 49) = w3 at *
  generalize w2.heap.size = g3 at *
  have HL3 := Lib.hid (laidW_below hL HX3.out (by rw [HGG.out]; exact Nat.le_refl _))
  clear HO2 HX2 hL
  have hq : decide (tokF = tokF) = true := decide_eq_true rfl
  have HQ := Lib.hid hq
  clear hq
  refine halt ?_
  go_wp2_with (first
    | ((with_reducible refine wpList_frame (.tmp 1) ?ho_b ?hw_b g tokC ?hx_b tokC_size ?hg_b ?h_b); (case ho_b => rfl); (case hw_b => kernel_rfl); (case hx_b => rfl); (case hg_b => exact HO3.out))
    | ((with_reducible refine wpList_frame (.tmp 4) ?ho_c ?hw_c g3 tokC ?hx_c tokC_size ?hg_c ?h_c); (case ho_c => rfl); (case hw_c => kernel_rfl); (case hx_c => rfl); (case hg_c => exact HP3.out))
    | ((with_reducible refine wpList_eqFr2 (.tmp 25) (.tmp 26) 49 ?ho_d ?hw_d tokF tokF true HQ.out ?hx_d ?hy_d ?h_d); (case ho_d => rfl); (case hw_d => kernel_rfl); (case hx_d => rfl); (case hy_d => rfl))
    | ((with_reducible refine wpList_frame (.tmp 1) ?ho_e ?hw_e g tokC ?hx_e tokC_size ?hg_e ?h_e); (case ho_e => rfl); (case hw_e => kernel_rfl); (case hx_e => rfl); (case hg_e => exact HO3.out)))
  refine (text_any tokC tokF rfl tok_ok _ HL3.out).mono ?_
  rintro e w4 ⟨rfl, hb4⟩
  have HX4 := Lib.hid (HX3.out.trans (hb4.mono (Nat.le_of_lt HO3.out.lt)))
  rw [tok_text]
  clear hb4
  go_wp2
  go_ret
  exact ⟨rfl, by rw [HGG.out]; exact HX4.out⟩
end Go.Proofs.YtmehafolnpkmhaaDoor
