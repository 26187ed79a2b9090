/- The law IecBack: what is put is got, brought into its kind; the bytes beside it stay. -/
import Derived.Test.YtclbmgnpgjhlhaaIecAwake
import Derived.Test.YtclbmgnpgjhlhaaIecPlain
import Derived.Test.YtclbmgnpgjhlhaaIecPut2
import Derived.Test.YtclbmgnpgjhlhaaIecConv
import Derived.Test.YtclbmgnpgjhlhaaArr
import Derived.Test.YtclbmgnpgjhlhaaHeld
import Derived.BigQuiet
import Derived.Deep.QuietTactic
namespace Go.Proofs.Ytclbmgnpgjhlhaa
open Go.RowKit
theorem held_in {W w1 w2 : World} {A : World → Prop} (F : ∀ w', Below W.heap.size W w' → A w') (h : Below W.heap.size W w1 ∧ A w1) (hb : Below w1.heap.size w1 w2) : Below W.heap.size W w2 ∧ A w2 :=
  have hB := h.1.trans (hb.mono h.1.size)
  ⟨hB, F _ hB⟩
theorem held_first {W : World} {A : World → Prop} (F : ∀ w', Below W.heap.size W w' → A w') : Below W.heap.size W W.drew ∧ A W.drew := ⟨(Below.refl _ _).drew, F _ (Below.refl _ _).drew⟩
theorem put_text (g : Nat) (s : ByteArray) (cap a : Nat) (k v : Int) (hL : s.size ≤ cap) (hc : cap ≤ 9223372036854775807) (hs : s.size ≤ 1000) (ht : thereB (s.size : Int) (a : Int) (sizeK (kN k)) = true) (w : World) (hR : RowAt w g s.data.toList) :
    Calls Try.prog 22 #[.slice (some ⟨g, 0, none⟩) s.size cap, .int .i64 (a : Int), .int .i64 k, .int .i64 v] w fun e w' =>
      e = .returned (.bool true) ∧ RowAt w' g (putAt s.data.toList a (beB (sizeK (kN k)).toNat (wrapK (kN k) v))) ∧ Keep (· = g) w w' := by
  have hl : s.data.toList.length = s.size := by simp
  have := put_big g s.data.toList cap a k v (by omega) hc (by omega) (by rw [hl]; exact ht) w hR
  rw [hl] at this
  exact this
theorem kN_nat (K : Nat) (h : 1 ≤ K ∧ K ≤ 7) : kN (K : Int) = K := by unfold kN; rw [if_pos (by omega)]; simp
theorem sizeK_pos (k : Nat) (h : 1 ≤ k ∧ k ≤ 7) : 1 ≤ sizeK k := by
  rcases (by omega : k = 1 ∨ k = 2 ∨ k = 3 ∨ k = 4 ∨ k = 5 ∨ k = 6 ∨ k = 7) with rfl | rfl | rfl | rfl | rfl | rfl | rfl <;> decide
set_option maxRecDepth 100000 in
set_option maxHeartbeats 2000000 in
theorem iecBack_walk {H : Type} {enc : TypeId × Value → H} (s : ByteArray) (hs : s.size ≤ 140737488351232) (v : Value) (d : DataW H) (p : List MemPlace) {w : World}
    (h : DataW.Trod enc Try.prog w 0 (fun _ => true) true 41 v d p) (o : Value.okWide Try.prog w .any 0 41 v) (_ : ∀ x ∈ d.weights Try.prog 41, x ≤ 140737488351232)
    (x : Int) (wx : (Lit.int .i64 x).wf = true) (_ : World) :
    Calls Try.prog 5 #[.string s, v, .int .i64 x] w fun e w' => e = .returned (.bool true) ∧ Below w.heap.size w w' := by
  obtain ⟨l, hl, rfl, hw⟩ := arr_of (k := .u8) Try.underlying41 Try.underlying5 (by kernel_rfl) (by kernel_rfl) h o
  clear h o wx
  match l, hl, hw with
  | [y, q], _, hw =>
  have hy := bounds_u8 (hw y (by simp))
  have hq := bounds_u8 (hw q (by simp))
  clear hw
  obtain ⟨y, rfl⟩ := Int.eq_ofNat_of_zero_le hy.1
  obtain ⟨q, rfl⟩ := Int.eq_ofNat_of_zero_le hq.1
  have hy2 : y < 256 := by omega
  have hq2 : q < 256 := by omega
  clear hy hq
  have hX := ObjAt.new w #[.int .u8 (y : Int), .int .u8 (q : Int)] 41
  have hbx := (Below.refl w.heap.size w).alloc (Nat.le_refl _) (.cells #[.int .u8 (y : Int), .int .u8 (q : Int)] 41)
  have HX := Lib.hid (And.intro hX hbx)
  clear hX hbx
  by_cases hg : 8 ≤ s.size ∧ s.size ≤ 40
  · obtain ⟨K, hK⟩ : ∃ K : Nat, K = 1 + q % 7 := ⟨_, rfl⟩
    have hKb : 1 ≤ K ∧ K ≤ 7 := by omega
    have hkn := kN_nat K hKb
    have hbd := sizeK_bd K
    have hpo := sizeK_pos K hKb
    obtain ⟨n, hn⟩ : ∃ n : Nat, sizeK K = (n : Int) := ⟨(sizeK K).toNat, by omega⟩
    have hnb : 1 ≤ n ∧ n ≤ 4 := by omega
    obtain ⟨D, hD⟩ : ∃ D : Nat, D = s.size - n + 1 := ⟨_, rfl⟩
    obtain ⟨a, ha⟩ : ∃ a : Nat, a = y % D := ⟨_, rfl⟩
    have haD : a < D := by rw [ha]; exact Nat.mod_lt _ (by omega)
    have hfit : a + n ≤ s.size := by omega
    have ht : thereB (s.size : Int) (a : Int) (sizeK (kN (K : Int))) = true := by rw [hkn, hn]; simp [thereB]; omega
    have hWI : isK K (wrapK K x) = true := wrap_is K hKb x
    have hgp := get_put s a K n hKb x hn hfit
    have hsz' := textOf_size (putAt s.data.toList a (beB n (wrapK K x)))
    have hbl := beB_length n (wrapK K x)
    have hpl := putAt_length s.data.toList a (beB n (wrapK K x)) (by simp; omega)
    have hll : s.data.toList.length = s.size := by simp
    have hsz2 : (textOf (putAt s.data.toList a (beB n (wrapK K x)))).size = s.size := by omega
    have hall := textOf_all (putAt s.data.toList a (beB n (wrapK K x))) s.size (by omega)
    have hbef := put_before s a (beB n (wrapK K x)) (by omega)
    have hbeh := put_behind s a n (beB n (wrapK K x)) hbl hfit
    have HP := Lib.hid (And.intro ht (And.intro hWI (And.intro hgp (And.intro hall (And.intro hbef hbeh)))))
    have HN := Lib.hid (And.intro hkn hn)
    have HL := Lib.hid (And.intro hpl hsz2)
    clear hkn hpl hall hbef hbeh hsz' ht hWI hgp hbl hll hsz2 hbd hpo
    have e2 : (1 : Int) + (q : Int) % 7 = (K : Int) := by omega
    have E2 := Lib.hid e2
    clear e2
    have e3 : (s.size : Int) - (n : Int) + 1 = (D : Int) := by omega
    have e4 : (y : Int) % (D : Int) = (a : Int) := by rw [ha]; rfl
    have E4 := Lib.hid (And.intro e3 e4)
    clear e3 e4
    have e5 : (1 : Int) ≤ (s.size : Int) - (n : Int) + 1 := by omega
    have e6 : (s.size : Int) - (n : Int) + 1 ≤ 41 := by omega
    have hDi : (1 : Int) ≤ (D : Int) ∧ (D : Int) ≤ 41 := by omega
    have hg1 : (8 : Int) ≤ (s.size : Int) := by omega
    have hg2 : (s.size : Int) ≤ 40 := by omega
    have hni : (1 : Int) ≤ (n : Int) ∧ (n : Int) ≤ 4 := by omega
    clear hn hK ha
    go_enter Try.func5, Try.ntmps5
    go_wp2_with fail
    refine (iawake_any _).mono ?_
    rintro e w1 ⟨rfl, hb1⟩
    have c0 : w1.cell? ⟨w.heap.size, 0, none⟩ = some (.int .u8 (y : Int)) := (below_obj hb1 HX.out.1).cell 0
    have c1 : w1.cell? ⟨w.heap.size, 1, none⟩ = some (.int .u8 (q : Int)) := (below_obj hb1 HX.out.1).cell 1
    have H1 := Lib.hid (And.intro (below_obj hb1 HX.out.1) (HX.out.2.trans (hb1.mono HX.out.2.size)))
    clear hb1
    go_wp2_with fail
    rw [E2.out]
    refine (size_any (K : Int) _).mono ?_
    rintro e w2 ⟨rfl, hb2⟩
    rw [HN.out.1, HN.out.2]
    have c0 : w2.cell? ⟨w.heap.size, 0, none⟩ = some (.int .u8 (y : Int)) := (below_obj hb2 H1.out.1).cell 0
    have H2 := Lib.hid (And.intro (below_obj hb2 H1.out.1) (bt H1.out.2 hb2))
    have hcv := conv_run w2 s
    have hcap := conv_cap w2 s (by omega)
    clear hb2 c1
    go_wp2_with fail
    rw [E4.out.1, E4.out.2]
    have hrow := conv_row w2 s
    have hlt : w.heap.size < w2.heap.size := H2.out.1.lt
    have hbw := bt H2.out.2 (conv_below w2 s)
    generalize grownCap w2 s.size 0 5 = cap at *
    refine (put_text w2.heap.size s cap a (K : Int) x hcap.1 hcap.2 (by omega) HP.out.1 _ hrow).mono ?_
    rintro e w3 ⟨rfl, hrow3, hk3⟩
    rw [HN.out.1, HN.out.2, Int.toNat_natCast] at hrow3
    have hB3 : Below w.heap.size w w3 := hbw.trans (hk3.below hbw.size (fun j hj he => by omega))
    have hcv3 := row_string hrow3 0 s.size cap (by rw [HL.out.1]; simp)
    rw [HP.out.2.2.2.1] at hcv3
    have H3 := Lib.hid (And.intro hrow3 hB3)
    clear hcv hrow hbw hrow3 hk3 hB3 c0 hlt
    generalize w2.heap.size = g at *
    generalize hT : textOf (putAt s.data.toList a (beB n (wrapK K x))) = T at *
    go_wp2_with fail
    refine (get_yes T a n (K : Int) (by rw [HL.out.2]; omega) (by rw [HN.out.1]; exact HN.out.2) (by rw [HL.out.2]; omega) _).mono ?_
    rintro e w4 ⟨rfl, hb4⟩
    rw [HN.out.1, HP.out.2.2.1]
    have hrow4 := H3.out.1.keep (Keep.of_below (S := fun _ => False) hb4) (by simp)
    have hB4 := bt H3.out.2 hb4
    have H4 := Lib.hid (And.intro hrow4 hB4)
    clear hcv3 hrow4 hB4 hb4
    go_wp2_with fail
    have hcc := hcap.1
    rcases Nat.lt_or_ge (a + n) cap with hlt | hge
    · have F : ∀ w' : World, Below w4.heap.size w4 w' → ((convert 36 9 (.slice (some ⟨g, 0, none⟩) a cap)).run Try.prog w' = .ok (.string (s.extract 0 a)) w') ∧ ((convert 36 9 (.slice (some ⟨g, a + n, none⟩) (s.size - (a + n)) (cap - (a + n)))).run Try.prog w' = .ok (.string (s.extract (a + n) s.size)) w') := fun w' hb => by
        have hr := H4.out.1.keep (Keep.of_below (S := fun _ => False) hb) (by simp)
        have hlen : (putAt s.data.toList a (beB n (wrapK K x))).length = s.size := by rw [HL.out.1]; simp
        have h1 := row_string hr 0 a cap (by omega)
        rw [HP.out.2.2.2.2.1] at h1
        have hb2 := HP.out.2.2.2.2.2
        have h2 := row_string hr (a + n) (s.size - (a + n)) (cap - (a + n)) (by omega)
        rw [hb2] at h2
        exact ⟨h1, h2⟩
      have HF := Lib.hid F
      clear F
      have q1 : IntKind.i64.wrap ((a : Int) + (n : Int)) = (a : Int) + (n : Int) := IntWalk.i64_in _ (by omega)
      have q2 : (0 : Int) ≤ (a : Int) + (n : Int) := by omega
      have q3 : ((a : Int) + (n : Int)).toNat = a + n := by omega
      have q4 : (a : Int) + (n : Int) ≤ (s.size : Int) := by omega
      have q5 : (a : Int) ≤ (s.size : Int) := by omega
      have q6 : (a : Int) ≤ (cap : Int) := by omega
      have q7 : a + n ≤ s.size := by omega
      have q8 : ¬ cap = a + n := by omega
      clear hcap
      go_region_held3 (fun w' => Below w4.heap.size w4 w' ∧ ((convert 36 9 (.slice (some ⟨g, 0, none⟩) a cap)).run Try.prog w' = .ok (.string (s.extract 0 a)) w') ∧ ((convert 36 9 (.slice (some ⟨g, a + n, none⟩) (s.size - (a + n)) (cap - (a + n)))).run Try.prog w' = .ok (.string (s.extract (a + n) s.size)) w'))
        (first | exact held_first HF.out | assumption | exact held_in HF.out (by assumption) hb5)
        (first
          | (go_at_call 26; (refine (wrap_any (K : Int) x _).mono ?_); rw [HN.out.1]; rintro e w5 ⟨rfl, hb5⟩)
          | (go_at_call 27; (refine (is_any (K : Int) (wrapK K x) _).mono ?_); rw [HN.out.1, HP.out.2.1]; rintro e w5 ⟨rfl, hb5⟩))
      go_wp2
      go_ret
      rename_i hS
      exact ⟨ret_bool (by simp), H4.out.2.trans (hS.1.mono H4.out.2.size)⟩
    · have hsn : s.size = a + n := by omega
      have hcn : cap = a + n := by omega
      subst hcn
      have HSN := Lib.hid hsn
      clear hsn
      have F : ∀ w' : World, Below w4.heap.size w4 w' → ((convert 36 9 (.slice (some ⟨g, 0, none⟩) a (a + n))).run Try.prog w' = .ok (.string (s.extract 0 a)) w') ∧ ((convert 36 9 (.slice (some ⟨g, 0, none⟩) (s.size - (a + n)) 0)).run Try.prog w' = .ok (.string (s.extract (a + n) s.size)) w') := fun w' hb => by
        have hr := H4.out.1.keep (Keep.of_below (S := fun _ => False) hb) (by simp)
        have hlen : (putAt s.data.toList a (beB n (wrapK K x))).length = s.size := by rw [HL.out.1]; simp
        have h1 := row_string hr 0 a (a + n) (by omega)
        rw [HP.out.2.2.2.2.1] at h1
        have hb2 := HP.out.2.2.2.2.2
        have hz : s.size - (a + n) = 0 := by have := HSN.out; omega
        have h2 := row_string hr 0 (s.size - (a + n)) 0 (by omega)
        rw [hz] at hb2 h2 ⊢
        simp only [List.take_zero] at hb2 h2
        rw [hb2] at h2
        exact ⟨h1, h2⟩
      have HF := Lib.hid F
      clear F
      have q1 : IntKind.i64.wrap ((a : Int) + (n : Int)) = (a : Int) + (n : Int) := IntWalk.i64_in _ (by omega)
      have q2 : (0 : Int) ≤ (a : Int) + (n : Int) := by omega
      have q3 : ((a : Int) + (n : Int)).toNat = a + n := by omega
      have q4 : (a : Int) + (n : Int) ≤ (s.size : Int) := by omega
      have q5 : (a : Int) ≤ (s.size : Int) := by omega
      have q6 : (a : Int) ≤ (a : Int) + (n : Int) := by omega
      have q8 : (0 : Int) ≤ (a : Int) := by omega
      have q9 : (0 : Int) ≤ (n : Int) := by omega
      have q7 : a + n ≤ s.size := by omega
      clear hcap hge hcc hD haD
      go_region_held3 (fun w' => Below w4.heap.size w4 w' ∧ ((convert 36 9 (.slice (some ⟨g, 0, none⟩) a (a + n))).run Try.prog w' = .ok (.string (s.extract 0 a)) w') ∧ ((convert 36 9 (.slice (some ⟨g, 0, none⟩) (s.size - (a + n)) 0)).run Try.prog w' = .ok (.string (s.extract (a + n) s.size)) w'))
        (first | exact held_first HF.out | assumption | exact held_in HF.out (by assumption) hb5)
        (first
          | (go_at_call 26; (refine (wrap_any (K : Int) x _).mono ?_); rw [HN.out.1]; rintro e w5 ⟨rfl, hb5⟩)
          | (go_at_call 27; (refine (is_any (K : Int) (wrapK K x) _).mono ?_); rw [HN.out.1, HP.out.2.1]; rintro e w5 ⟨rfl, hb5⟩))
      go_wp2
      go_ret
      rename_i hS
      exact ⟨ret_bool (by simp), H4.out.2.trans (hS.1.mono H4.out.2.size)⟩
  · rcases (by omega : s.size < 8 ∨ 40 < s.size) with hg1 | hg1
    · have hg2 : (s.size : Int) < 8 := by omega
      go_enter Try.func5, Try.ntmps5
      go_wp2_with fail
      refine (iawake_any _).mono ?_
      rintro e w1 ⟨rfl, hb1⟩
      go_wp2
      go_ret
      exact ⟨rfl, HX.out.2.trans (hb1.mono HX.out.2.size)⟩
    · have hg2 : (40 : Int) < (s.size : Int) := by omega
      have hg3 : (8 : Int) ≤ (s.size : Int) := by omega
      go_enter Try.func5, Try.ntmps5
      go_wp2_with fail
      refine (iawake_any _).mono ?_
      rintro e w1 ⟨rfl, hb1⟩
      go_wp2
      go_ret
      exact ⟨rfl, HX.out.2.trans (hb1.mono HX.out.2.size)⟩
end Go.Proofs.Ytclbmgnpgjhlhaa
