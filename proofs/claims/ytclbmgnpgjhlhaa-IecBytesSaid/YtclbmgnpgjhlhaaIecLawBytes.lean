/- The law IecBytes: what is got of an area's bytes, and an area behind a value was put, is the document's. -/
import Derived.Test.YtclbmgnpgjhlhaaIecAwake
import Derived.Test.YtclbmgnpgjhlhaaIecRefGet
import Derived.Test.YtclbmgnpgjhlhaaIecRefPut
import Derived.Test.YtclbmgnpgjhlhaaIecPut2
import Derived.Test.YtclbmgnpgjhlhaaIecConv
import Derived.Test.YtclbmgnpgjhlhaaArr
import Derived.Test.YtclbmgnpgjhlhaaHeld
namespace Go.Proofs.Ytclbmgnpgjhlhaa
open Go.RowKit
theorem bhold_in {W w1 w2 : World} {A : World → Prop} (F : ∀ w', Below W.heap.size W w' → A w') (h : Below W.heap.size W w1 ∧ A w1) (hb : Below w1.heap.size w1 w2) : Below W.heap.size W w2 ∧ A w2 :=
  have hB := h.1.trans (hb.mono h.1.size)
  ⟨hB, F _ hB⟩
theorem bhold_first {W : World} {A : World → Prop} (F : ∀ w', Below W.heap.size W w' → A w') : Below W.heap.size W W.drew ∧ A W.drew := ⟨(Below.refl _ _).drew, F _ (Below.refl _ _).drew⟩
theorem textOf_same (s : ByteArray) : textOf s.data.toList = s := by apply ext_bytes; simp [textOf]
theorem putb_text (g : Nat) (s : ByteArray) (cap a : Nat) (k v : Int) (hL : s.size ≤ cap) (hc : cap ≤ 9223372036854775807) (hs : s.size ≤ 1000) (ht : thereB (s.size : Int) (a : Int) (sizeK (kN k)) = true) (w : World) (hR : RowAt w g s.data.toList) :
    Calls Try.prog 22 #[.slice (some ⟨g, 0, none⟩) s.size cap, .int .i64 (a : Int), .int .i64 k, .int .i64 v] w fun e w' =>
      e = .returned (.bool true) ∧ RowAt w' g (putAt s.data.toList a (beB (sizeK (kN k)).toNat (wrapK (kN k) v))) ∧ Keep (· = g) w w' := by
  have hl : s.data.toList.length = s.size := by simp
  have := put_big g s.data.toList cap a k v (by omega) hc (by omega) (by rw [hl]; exact ht) w hR
  rw [hl] at this
  exact this
set_option maxRecDepth 100000 in
set_option maxHeartbeats 2000000 in
theorem iecBytes_walk {H : Type} {enc : TypeId × Value → H} (s : ByteArray) (hs : s.size ≤ 140737488351232) (v : Value) (d : DataW H) (p : List MemPlace) {w : World}
    (h : DataW.Trod enc Try.prog w 0 (fun _ => true) true 32 v d p) (o : Value.okWide Try.prog w .any 0 32 v) (_ : ∀ x ∈ d.weights Try.prog 32, x ≤ 140737488351232)
    (x : Int) (wx : (Lit.int .i64 x).wf = true) (_ : World) :
    Calls Try.prog 4 #[.string s, v, .int .i64 x] w fun e w' => e = .returned (.bool true) ∧ Below w.heap.size w w' := by
  obtain ⟨l, hl, rfl, hw⟩ := arr_of (k := .i64) Try.underlying32 Try.underlying3 (by kernel_rfl) (by kernel_rfl) h o
  clear h o wx
  match l, hl, hw with
  | [y, k], _, hw =>
  have hy := bounds_i64 (hw y (by simp))
  clear hw
  have hX := ObjAt.new w #[.int .i64 y, .int .i64 k] 32
  have hbx := (Below.refl w.heap.size w).alloc (Nat.le_refl _) (.cells #[.int .i64 y, .int .i64 k] 32)
  have HX := Lib.hid (And.intro hX hbx)
  clear hX hbx
  by_cases hg : s.size ≤ 100
  · have hg1 : ¬ (100 : Int) < (s.size : Int) := by omega
    have hcap0 := conv_cap
    rcases htt : thereB (s.size : Int) y (sizeK (kN k)) with _ | _
    · have HT := Lib.hid htt
      clear htt hcap0
      go_enter Try.func4, Try.ntmps4
      go_wp2_with fail
      refine (iawake_any _).mono ?_
      rintro e w1 ⟨rfl, hb1⟩
      have H1 := Lib.hid (And.intro (below_obj hb1 HX.out.1) (HX.out.2.trans (hb1.mono HX.out.2.size)))
      have c0 : w1.cell? ⟨w.heap.size, 0, none⟩ = some (.int .i64 y) := H1.out.1.cell 0
      have c1 : w1.cell? ⟨w.heap.size, 1, none⟩ = some (.int .i64 k) := H1.out.1.cell 1
      clear hb1
      go_wp2_with fail
      refine (rthere_any (s.size : Int) y k (by omega) hy _).mono ?_
      rintro e w2 ⟨rfl, hb⟩
      rw [HT.out]
      have H2 := Lib.hid (And.intro (below_obj hb H1.out.1) (bt H1.out.2 hb))
      have c0 : w2.cell? ⟨w.heap.size, 0, none⟩ = some (.int .i64 y) := H2.out.1.cell 0
      have c1 : w2.cell? ⟨w.heap.size, 1, none⟩ = some (.int .i64 k) := H2.out.1.cell 1
      clear hb
      go_wp2_with fail
      refine (get_no s y k (by omega) hy HT.out _).mono ?_
      rintro e w3 ⟨rfl, hb⟩
      have H3 := Lib.hid (And.intro (below_obj hb H2.out.1) (bt H2.out.2 hb))
      have hcv := conv_run w3 s
      have hcap := conv_cap w3 s (by omega)
      have H4 := Lib.hid (And.intro (below_obj (conv_below w3 s) H3.out.1) (bt H3.out.2 (conv_below w3 s)))
      have hrow := conv_row w3 s
      have HR := Lib.hid hrow
      have c0 : (Lib.bytesWorld w3 5 s).cell? ⟨w.heap.size, 0, none⟩ = some (.int .i64 y) := H4.out.1.cell 0
      have c1 : (Lib.bytesWorld w3 5 s).cell? ⟨w.heap.size, 1, none⟩ = some (.int .i64 k) := H4.out.1.cell 1
      clear hb hrow
      go_wp2_with fail
      generalize grownCap w3 s.size 0 5 = cap at *
      generalize w3.heap.size = g at *
      generalize Lib.bytesWorld w3 5 s = W at *
      refine (put_no g s.size cap y k x (by omega) hy HT.out _).mono ?_
      rintro e w5 ⟨rfl, hb⟩
      have hrow5 := HR.out.keep (Keep.of_below (S := fun _ => False) hb) (by simp)
      have hB5 := bt H4.out.2 hb
      have hcv5 := row_string hrow5 0 s.size cap (by simp)
      have e5 : (⟨((s.data.toList.drop 0).take s.size).toArray⟩ : ByteArray) = s := by apply ext_bytes; simp; exact List.take_of_length_le (by simp)
      rw [e5] at hcv5
      have HB5 := Lib.hid hB5
      clear hb hrow5 hB5 e5 hcv hcap
      go_wp2
      go_ret
      exact ⟨ret_bool (by simp), HB5.out⟩
    · have ht := htt
      simp [thereB] at ht
      have hbd := sizeK_bd (kN k)
      obtain ⟨n, hn⟩ : ∃ n : Nat, sizeK (kN k) = (n : Int) := ⟨(sizeK (kN k)).toNat, by omega⟩
      obtain ⟨a, rfl⟩ := Int.eq_ofNat_of_zero_le (show 0 ≤ y by omega)
      have hf : 0 < n ∧ n ≤ 4 ∧ a + n ≤ s.size := by omega
      have hll : s.data.toList.length = s.size := by simp
      have hpl := putAt_length s.data.toList a (beB n (wrapK (kN k) x)) (by rw [beB_length]; omega)
      have hall := textOf_all (putAt s.data.toList a (beB n (wrapK (kN k) x))) s.size (by omega)
      have HT := Lib.hid htt
      have HN := Lib.hid (And.intro hn (And.intro hf (And.intro hpl hall)))
      clear htt ht hbd hn hf hcap0 hll hpl hall
      go_enter Try.func4, Try.ntmps4
      go_wp2_with fail
      refine (iawake_any _).mono ?_
      rintro e w1 ⟨rfl, hb1⟩
      have H1 := Lib.hid (And.intro (below_obj hb1 HX.out.1) (HX.out.2.trans (hb1.mono HX.out.2.size)))
      have c0 : w1.cell? ⟨w.heap.size, 0, none⟩ = some (.int .i64 (a : Int)) := H1.out.1.cell 0
      have c1 : w1.cell? ⟨w.heap.size, 1, none⟩ = some (.int .i64 k) := H1.out.1.cell 1
      clear hb1
      go_wp2_with fail
      refine (rthere_any (s.size : Int) (a : Int) k (by omega) hy _).mono ?_
      rintro e w2 ⟨rfl, hb⟩
      rw [HT.out]
      have H2 := Lib.hid (And.intro (below_obj hb H1.out.1) (bt H1.out.2 hb))
      have c0 : w2.cell? ⟨w.heap.size, 0, none⟩ = some (.int .i64 (a : Int)) := H2.out.1.cell 0
      have c1 : w2.cell? ⟨w.heap.size, 1, none⟩ = some (.int .i64 k) := H2.out.1.cell 1
      clear hb
      go_wp2_with fail
      refine (get_yes s a n k (by omega) HN.out.1 HN.out.2.1 _).mono ?_
      rintro e w3 ⟨rfl, hb⟩
      have H3 := Lib.hid (And.intro (below_obj hb H2.out.1) (bt H2.out.2 hb))
      have hcv := conv_run w3 s
      have hcap := conv_cap w3 s (by omega)
      have H4 := Lib.hid (And.intro (below_obj (conv_below w3 s) H3.out.1) (bt H3.out.2 (conv_below w3 s)))
      have hrow := conv_row w3 s
      have hg0 := H3.out.1.lt
      have HR := Lib.hid (And.intro hrow hg0)
      have c0 : (Lib.bytesWorld w3 5 s).cell? ⟨w.heap.size, 0, none⟩ = some (.int .i64 (a : Int)) := H4.out.1.cell 0
      have c1 : (Lib.bytesWorld w3 5 s).cell? ⟨w.heap.size, 1, none⟩ = some (.int .i64 k) := H4.out.1.cell 1
      clear hb hrow hg0
      go_wp2_with fail
      generalize grownCap w3 s.size 0 5 = cap at *
      generalize w3.heap.size = g at *
      generalize Lib.bytesWorld w3 5 s = W at *
      refine (putb_text g s cap a k x hcap.1 hcap.2 (by omega) HT.out _ HR.out.1).mono ?_
      rintro e w5 ⟨rfl, hrow5, hk5⟩
      rw [HN.out.1, Int.toNat_natCast] at hrow5
      have hX5 := hk5.obj H4.out.1 (by have := HR.out.2; omega)
      have hB5 : Below w.heap.size w w5 := H4.out.2.trans (hk5.below H4.out.2.size (fun j hj he => by have := HR.out.2; omega))
      have F : ∀ w' : World, Below w5.heap.size w5 w' → w'.cell? ⟨w.heap.size, 0, none⟩ = some (.int .i64 (a : Int)) ∧ w'.cell? ⟨w.heap.size, 1, none⟩ = some (.int .i64 k) ∧ (convert 36 9 (.slice (some ⟨g, 0, none⟩) s.size cap)).run Try.prog w' = .ok (.string (textOf (putAt s.data.toList a (beB n (wrapK (kN k) x))))) w' := fun w' hb => by
        have hr := hrow5.keep (Keep.of_below (S := fun _ => False) hb) (by simp)
        have h1 := row_string hr 0 s.size cap (by rw [HN.out.2.2.1]; simp)
        rw [HN.out.2.2.2] at h1
        exact ⟨(below_obj hb hX5).cell 0, (below_obj hb hX5).cell 1, h1⟩
      have HF := Lib.hid F
      have HB5 := Lib.hid hB5
      clear F hB5 hX5 hrow5 hk5 hcv hcap c0 c1
      go_wp2_with fail
      go_region_held3 (fun w' => Below w5.heap.size w5 w' ∧ w'.cell? ⟨w.heap.size, 0, none⟩ = some (.int .i64 (a : Int)) ∧ w'.cell? ⟨w.heap.size, 1, none⟩ = some (.int .i64 k) ∧ (convert 36 9 (.slice (some ⟨g, 0, none⟩) s.size cap)).run Try.prog w' = .ok (.string (textOf (putAt s.data.toList a (beB n (wrapK (kN k) x))))) w')
        (first | exact bhold_first HF.out | assumption | exact bhold_in HF.out (by assumption) hb6)
        (first
          | (go_at_call 23; (with_reducible refine (rget_yes s a n k (by omega) HN.out.1 HN.out.2.1 _).mono ?_); rintro e w6 ⟨rfl, hb6⟩)
          | (go_at_call 24; (with_reducible refine (rput_yes s a n k x (by omega) HN.out.1 HN.out.2.1 _).mono ?_); rintro e w6 ⟨rfl, hb6⟩))
      go_wp2
      go_ret
      rename_i hS
      exact ⟨ret_bool (by simp), HB5.out.trans (hS.1.mono HB5.out.size)⟩
  · have hg1 : (100 : Int) < (s.size : Int) := by omega
    go_enter Try.func4, Try.ntmps4
    go_wp2_with fail
    refine (iawake_any _).mono ?_
    rintro e w1 ⟨rfl, hb1⟩
    go_wp2
    go_ret
    exact ⟨rfl, HX.out.2.trans (hb1.mono HX.out.2.size)⟩
end Go.Proofs.Ytclbmgnpgjhlhaa
