/- The bins of samples, walked: the program's and the document's. -/
import Derived.Test.YtkeeledkdoiglaaPhaRef
import Derived.Test.YtkeeledkdoiglaaRow
import Derived.Outline
namespace Go.Proofs.Ytkeeledkdoiglaa
open Go.RowKit
abbrev IRow (w : World) (s : Value) (l : List Int) : Prop := RowV .i64 w s l
theorem is_eq {r i : Nat} {z : Int × Int} (hr : Fl r z.1) (hi : Fl i z.2) (hb : BdZ 1073741823 z) (w : World) :
    Calls Try.prog 13 #[.complex .f64 r i, .agg #[.int .i64 z.1, .int .i64 z.2]] w fun e w' => e = .returned (.bool true) ∧ Below w.heap.size w w' := by
  obtain ⟨a, b⟩ := z
  obtain ⟨⟨h1, h2⟩, h3, h4⟩ := hb
  simp only at hr hi h1 h2 h3 h4
  go_enter Try.func13, Try.ntmps13
  go_wp2_with fail
  refine (parts_fl hr hi ⟨by omega, by omega⟩ ⟨by omega, by omega⟩ _).mono ?_
  rintro e w' ⟨rfl, rfl⟩
  go_wp2
  go_ret
  exact ⟨rfl, (Below.refl _ _).alloc (Nat.le_refl _) _⟩
theorem mul4_wrap (k j : Int) : IntKind.i64.wrap (-(k % 4) * (j % 4)) = -(k % 4) * (j % 4) := by
  have h1 := Int.emod_nonneg k (show (4 : Int) ≠ 0 by decide)
  have h2 := Int.emod_lt_of_pos k (show (0 : Int) < 4 by decide)
  have h3 := Int.emod_nonneg j (show (4 : Int) ≠ 0 by decide)
  have h4 := Int.emod_lt_of_pos j (show (0 : Int) < 4 by decide)
  generalize k % 4 = x at *
  generalize j % 4 = y at *
  rcases (by omega : x = 0 ∨ x = 1 ∨ x = 2 ∨ x = 3) with rfl | rfl | rfl | rfl <;> rcases (by omega : y = 0 ∨ y = 1 ∨ y = 2 ∨ y = 3) with rfl | rfl | rfl | rfl <;> decide
def BinRel (l : List Int) (k : Int) (m : Nat) (s c : Value) : Prop := ∃ (j p q : Nat), j ≤ m ∧ c = .int .i64 (j : Int) ∧ s = .complex .f64 p q ∧ Fl p (binZ l k j).1 ∧ Fl q (binZ l k j).2
set_option maxRecDepth 100000 in
set_option maxHeartbeats 1000000 in
theorem bin_row (l : List Int) (k : Int) (b o cap m : Nat) (hc : l.length ≤ cap) (hcap : cap ≤ maxLen) (hm : l.length ≤ 1000 ∧ m = l.length ∨ 1000 < l.length ∧ m = 1000) (w : World) (hx : ∀ i, i < l.length → w.cell? ⟨b, o + i, none⟩ = some (.int .i64 (l.getD i 0))) :
    Calls Try.prog 17 #[.slice (some ⟨b, o, none⟩) l.length cap, .int .i64 k] w (RetC (binZ l k m) w) := by
  unfold maxLen at hcap
  have HX := Lib.hid hx
  have H3 := Lib.hid and3
  clear hx
  go_enter Try.func17, Try.ntmps17
  rcases hm with ⟨hm1, rfl⟩ | ⟨hm1, rfl⟩
  · go_wp2
    go_loop [5, 14] (fun s c => BinRel l k l.length s c) (fun _ c => l.length - (intOf c).toNat)
    case atStart => exact ⟨0, 0, 0, Nat.zero_le _, rfl, rfl, fl_0, fl_0⟩
    case round =>
      obtain ⟨j, p, q, hj, rfl, rfl, hp, hq⟩ := hrel
      by_cases hlt : j < l.length
      · have hcell := HX.out j (by omega)
        obtain ⟨x, hxx⟩ : ∃ x, x = l.getD j 0 := ⟨_, rfl⟩
        rw [← hxx] at hcell
        have HXX := Lib.hid hxx
        clear hxx
        have h3k := H3.out k
        have h3j := H3.out (j : Int)
        have hw := mul4_wrap k j
        have hbd := binZ_bd l k j
        have hn0 := Int.emod_nonneg k (show (4 : Int) ≠ 0 by decide)
        have hn1 := Int.emod_lt_of_pos k (show (0 : Int) < 4 by decide)
        have HP := Lib.hid (And.intro hp (And.intro hq hbd))
        clear hp hq hbd
        go_wp2_with fail
        refine (of_any _ _ _).mono ?_
        rintro e w' ⟨c, d, rfl, hc, hd, rfl⟩
        go_wp2_with fail
        have hsb := smallZ_bd x
        refine (turn_fl (z := (smallZ x, smallZ 0)) _ hc hd ⟨⟨by omega, by omega⟩, by rw [smallZ_id (x := 0) (by decide)]; exact ⟨by simp, by simp⟩⟩ _).mono ?_
        rintro e w' ⟨c2, d2, rfl, hc2, hd2, rfl⟩
        rw [smallZ_id (x := 0) (by omega)] at hc2 hd2
        have htb := turnZ_bd (B := 1048576) (z := (smallZ x, 0)) (-(k % 4) * ((j : Int) % 4)) ⟨hsb, by constructor <;> simp⟩
        obtain ⟨⟨t1, t2⟩, t3, t4⟩ := htb
        obtain ⟨⟨u1, u2⟩, u3, u4⟩ := HP.out.2.2
        obtain ⟨r1, e1, f1⟩ := fl_add HP.out.1 hc2 ⟨by omega, by omega⟩
        obtain ⟨r2, e2, f2⟩ := fl_add HP.out.2.1 hd2 ⟨by omega, by omega⟩
        have hrun := run_complex_sum (P := Try.prog) w .add (.inl rfl) 26 .f64 p q c2 d2 r1 r2 (by simp [cSumBits, e1, e2])
        have HF := Lib.hid (And.intro f1 f2)
        clear hc hd hc2 hd2 t1 t2 t3 t4 u1 u2 u3 u4 e1 e2 f1 f2 HP
        go_wp2
        go_round
        case rel => exact ⟨j + 1, r1, r2, by omega, by go_num, rfl, by rw [binZ, ← HXX.out]; exact HF.out.1, by rw [binZ, ← HXX.out]; exact HF.out.2⟩
        case measure => simp [intOf]; omega
      · obtain rfl : j = l.length := by omega
        have HP := Lib.hid (And.intro hp hq)
        clear hp hq
        go_wp2
        go_ret
        exact ⟨_, _, rfl, HP.out.1, HP.out.2, rfl⟩
  · go_wp2
    go_loop [5, 14] (fun s c => BinRel l k 1000 s c) (fun _ c => 1000 - (intOf c).toNat)
    case atStart => exact ⟨0, 0, 0, Nat.zero_le _, rfl, rfl, fl_0, fl_0⟩
    case round =>
      obtain ⟨j, p, q, hj, rfl, rfl, hp, hq⟩ := hrel
      by_cases hlt : j < 1000
      · have hcell := HX.out j (by omega)
        obtain ⟨x, hxx⟩ : ∃ x, x = l.getD j 0 := ⟨_, rfl⟩
        rw [← hxx] at hcell
        have HXX := Lib.hid hxx
        clear hxx
        have h3k := H3.out k
        have h3j := H3.out (j : Int)
        have hw := mul4_wrap k j
        have hbd := binZ_bd l k j
        have hn0 := Int.emod_nonneg k (show (4 : Int) ≠ 0 by decide)
        have hn1 := Int.emod_lt_of_pos k (show (0 : Int) < 4 by decide)
        have HP := Lib.hid (And.intro hp (And.intro hq hbd))
        clear hp hq hbd
        go_wp2_with fail
        refine (of_any _ _ _).mono ?_
        rintro e w' ⟨c, d, rfl, hc, hd, rfl⟩
        go_wp2_with fail
        have hsb := smallZ_bd x
        refine (turn_fl (z := (smallZ x, smallZ 0)) _ hc hd ⟨⟨by omega, by omega⟩, by rw [smallZ_id (x := 0) (by decide)]; exact ⟨by simp, by simp⟩⟩ _).mono ?_
        rintro e w' ⟨c2, d2, rfl, hc2, hd2, rfl⟩
        rw [smallZ_id (x := 0) (by omega)] at hc2 hd2
        have htb := turnZ_bd (B := 1048576) (z := (smallZ x, 0)) (-(k % 4) * ((j : Int) % 4)) ⟨hsb, by constructor <;> simp⟩
        obtain ⟨⟨t1, t2⟩, t3, t4⟩ := htb
        obtain ⟨⟨u1, u2⟩, u3, u4⟩ := HP.out.2.2
        obtain ⟨r1, e1, f1⟩ := fl_add HP.out.1 hc2 ⟨by omega, by omega⟩
        obtain ⟨r2, e2, f2⟩ := fl_add HP.out.2.1 hd2 ⟨by omega, by omega⟩
        have hrun := run_complex_sum (P := Try.prog) w .add (.inl rfl) 26 .f64 p q c2 d2 r1 r2 (by simp [cSumBits, e1, e2])
        have HF := Lib.hid (And.intro f1 f2)
        clear hc hd hc2 hd2 t1 t2 t3 t4 u1 u2 u3 u4 e1 e2 f1 f2 HP
        go_wp2
        go_round
        case rel => exact ⟨j + 1, r1, r2, by omega, by go_num, rfl, by rw [binZ, ← HXX.out]; exact HF.out.1, by rw [binZ, ← HXX.out]; exact HF.out.2⟩
        case measure => simp [intOf]; omega
      · obtain rfl : j = 1000 := by omega
        have HP := Lib.hid (And.intro hp hq)
        clear hp hq
        go_wp2
        go_ret
        exact ⟨_, _, rfl, HP.out.1, HP.out.2, rfl⟩
set_option maxRecDepth 100000 in
theorem bin_nil (k : Int) (w : World) :
    Calls Try.prog 17 #[.slice none 0 0, .int .i64 k] w (RetC (0, 0) w) := by
  go_enter Try.func17, Try.ntmps17
  go_wp2
  refine wp_loop_rounds 1 ?_
  rw [rounds_succ]
  go_wp2
  go_ret
  exact ⟨_, _, rfl, fl_0, fl_0, rfl⟩
set_option maxRecDepth 100000 in
theorem bin_empty (x : Addr) (cap : Nat) (k : Int) (w : World) :
    Calls Try.prog 17 #[.slice (some x) 0 cap, .int .i64 k] w (RetC (0, 0) w) := by
  go_enter Try.func17, Try.ntmps17
  go_wp2
  refine wp_loop_rounds 1 ?_
  rw [rounds_succ]
  go_wp2
  go_ret
  exact ⟨_, _, rfl, fl_0, fl_0, rfl⟩
theorem bin_any {w : World} {s : Value} {l : List Int} (h : IRow w s l) (k : Int) :
    Calls Try.prog 17 #[s, .int .i64 k] w (RetC (binZ l k (min l.length 1000)) w) := by
  rcases h with ⟨rfl, rfl⟩ | ⟨x, cap, rfl, _, rfl⟩ | ⟨b, o, cap, rfl, h2, h3, h4, h5⟩
  · exact bin_nil k w
  · exact bin_empty x cap k w
  · exact bin_row l k b o cap _ h2 h3 (by omega) w h5
theorem tmod_turn (z : Int × Int) (k j m : Int) (h : k.tmod 4 = m) : turnZ z (-m * (j % 4)) = turnZ z (-(k % 4) * (j % 4)) := by
  have h4 := tmod4_bd k
  rw [h] at h4
  refine turnZ_mod z ?_
  have h3 := Int.emod_nonneg j (show (4 : Int) ≠ 0 by decide)
  have h5 := Int.emod_lt_of_pos j (show (0 : Int) < 4 by decide)
  generalize j % 4 = y at *
  rcases (by omega : y = 0 ∨ y = 1 ∨ y = 2 ∨ y = 3) with rfl | rfl | rfl | rfl <;> omega
theorem mul4_bd (m y : Int) (hm : -3 ≤ m ∧ m ≤ 3) (hy : 0 ≤ y ∧ y < 4) : -9 ≤ -m * y ∧ -m * y ≤ 9 := by
  rcases (by omega : y = 0 ∨ y = 1 ∨ y = 2 ∨ y = 3) with rfl | rfl | rfl | rfl <;> omega
set_option maxRecDepth 100000 in
set_option maxHeartbeats 1000000 in
theorem rbin_row (l : List Int) (k : Int) (b o cap : Nat) (hc : l.length ≤ cap) (hcap : cap ≤ maxLen) (w : World) (hlt : b < w.heap.size) (hx : ∀ i, i < l.length → w.cell? ⟨b, o + i, none⟩ = some (.int .i64 (l.getD i 0))) :
    Calls Try.prog 18 #[.slice (some ⟨b, o, none⟩) l.length cap, .int .i64 k] w fun e w' =>
      e = .returned (.agg #[.int .i64 (binZ l k (min l.length 1000)).1, .int .i64 (binZ l k (min l.length 1000)).2]) ∧ Below w.heap.size w w' := by
  unfold maxLen at hcap
  have HX := Lib.hid hx
  have h4 := tmod4_bd k
  have H3 := Lib.hid (fun z j m => tmod_turn z k j m)
  clear hx
  go_enter Try.func18, Try.ntmps18
  go_wp2
  go_loopw [6] (fun i wr => ∃ j : Nat, j ≤ min l.length 1000 ∧ i = .int .i64 (j : Int) ∧ PairAt wr (w.heap.size + 1) (binZ l k j) ∧ ObjAt wr w.heap.size #[.int .i64 0, .int .i64 0] 25 ∧ Below w.heap.size w wr) (fun i _ => l.length - (intOf i).toNat)
  case atStart =>
    refine ⟨0, Nat.zero_le _, rfl, ?_, (ObjAt.new w _ _).alloc _, ((Below.refl _ _).alloc (Nat.le_refl _) _).alloc (by simp) _⟩
    have := ObjAt.new (w.alloc (.cells #[.int .i64 0, .int .i64 0] 25)) #[.int .i64 0, .int .i64 0] 25
    simpa [PairAt, binZ] using this
  case round =>
    obtain ⟨j, hj, rfl, hP, hO, hB⟩ := hrel
    by_cases hjl : j < l.length ∧ j < 1000
    · obtain ⟨hjl, hjm⟩ := hjl
      have hjm' : (j : Int) < 1000 := by omega
      have hcell : wr.cell? ⟨b, o + j, none⟩ = some (.int .i64 (l.getD j 0)) := (hB.cell (p := ⟨b, o + j, none⟩) hlt).trans (HX.out j hjl)
      obtain ⟨x, hxx⟩ : ∃ x, x = l.getD j 0 := ⟨_, rfl⟩
      rw [← hxx] at hcell
      have HXX := Lib.hid hxx
      clear hxx
      obtain ⟨m, hm⟩ : ∃ m, k.tmod 4 = m := ⟨_, rfl⟩
      have HT := H3.out (smallZ x, 0) j m hm
      have hm4 := h4
      rw [hm] at hm4
      have hpb := mul4_bd m ((j : Int) % 4) ⟨hm4.1, hm4.2.1⟩ ⟨by omega, by omega⟩
      have hw : IntKind.i64.wrap (-m * ((j : Int) % 4)) = -m * ((j : Int) % 4) := IntWalk.i64_in _ ⟨by omega, by omega⟩
      have HTT := Lib.hid HT
      have HP := Lib.hid (And.intro hP (And.intro hO hB))
      have hbd := binZ_bd l k j
      obtain ⟨⟨u1, u2⟩, u3, u4⟩ := hbd
      clear hP hO hB HT h4
      go_wp2_with fail
      refine (rsmall_any _ _).mono ?_
      rintro e w2 ⟨rfl, rfl⟩
      go_wp2_with fail
      have hsb := smallZ_bd x
      refine (rturn_any (smallZ x, 0) _ ⟨⟨by omega, by omega⟩, by exact ⟨by simp, by simp⟩⟩ _).mono ?_
      rintro e w2 ⟨rfl, hb2⟩
      have htb := turnZ_bd (B := 1048576) (z := (smallZ x, 0)) (-(k % 4) * ((j : Int) % 4)) ⟨hsb, by constructor <;> simp⟩
      obtain ⟨⟨t1, t2⟩, t3, t4⟩ := htb
      rw [HTT.out]
      obtain ⟨tz, htz⟩ : ∃ tz, tz = turnZ (smallZ x, 0) (-(k % 4) * ((j : Int) % 4)) := ⟨_, rfl⟩
      obtain ⟨oz, hoz⟩ : ∃ oz, oz = binZ l k j := ⟨_, rfl⟩
      have hsucc : binZ l k (j + 1) = addZ oz tz := by rw [hoz, htz, HXX.out]; rfl
      rw [← htz] at t1 t2 t3 t4
      rw [← htz]
      rw [← hoz] at u1 u2 u3 u4
      have hP2 : PairAt w2 (w.heap.size + 1) oz := by rw [hoz]; exact below_obj hb2 HP.out.1
      have hO2 := below_obj hb2 HP.out.2.1
      have hB2 := HP.out.2.2.trans (hb2.mono HP.out.2.2.size)
      have hs2 : w.heap.size + 1 < w2.heap.size := hP2.lt
      have c0 : w2.cell? ⟨w.heap.size + 1, 0, none⟩ = some (.int .i64 oz.1) := hP2.cell 0
      have c1 : w2.cell? ⟨w.heap.size + 1, 1, none⟩ = some (.int .i64 oz.2) := hP2.cell 1
      have f0 : w2.frozen? ⟨w.heap.size + 1, 0, none⟩ = false := hP2.free 0
      have f1 : w2.frozen? ⟨w.heap.size + 1, 1, none⟩ = false := hP2.free 1
      have H9 : Hid (PairAt (((w2.setCell ⟨w.heap.size + 1, 0, none⟩ (.int .i64 (oz.1 + tz.1))).setCell ⟨w.heap.size + 1, 1, none⟩ (.int .i64 (oz.2 + tz.2))).alloc (.cells #[.int .i64 tz.1, .int .i64 tz.2] 25)) (w.heap.size + 1) (binZ l k (j + 1)) ∧
          ObjAt (((w2.setCell ⟨w.heap.size + 1, 0, none⟩ (.int .i64 (oz.1 + tz.1))).setCell ⟨w.heap.size + 1, 1, none⟩ (.int .i64 (oz.2 + tz.2))).alloc (.cells #[.int .i64 tz.1, .int .i64 tz.2] 25)) w.heap.size #[.int .i64 0, .int .i64 0] 25 ∧
          Below w.heap.size w (((w2.setCell ⟨w.heap.size + 1, 0, none⟩ (.int .i64 (oz.1 + tz.1))).setCell ⟨w.heap.size + 1, 1, none⟩ (.int .i64 (oz.2 + tz.2))).alloc (.cells #[.int .i64 tz.1, .int .i64 tz.2] 25))) := by
        refine Lib.hid ⟨?_, ?_, ?_⟩
        · rw [hsucc]
          exact ((hP2.set 0 _).set 1 _).alloc _
        · exact ((hO2.set_other _ (by simp) _).set_other _ (by simp) _).alloc _
        · exact ((hB2.setCell (p := ⟨w.heap.size + 1, 0, none⟩) (by simp) _).setCell (p := ⟨w.heap.size + 1, 1, none⟩) (by simp) _).alloc (by simp [World.setCell]; omega) _
      clear hsucc htz hoz hP2 hO2 hB2 hb2 HP HTT hm hm4 hpb
      go_wp2
      go_roundw
      case rel => exact ⟨j + 1, by omega, by go_num, H9.out.1, H9.out.2.1, H9.out.2.2⟩
      case measure => simp [intOf]; omega
    · have hjm : j = min l.length 1000 := by omega
      have c0 : wr.cell? ⟨w.heap.size + 1, 0, none⟩ = some (.int .i64 (binZ l k j).1) := hP.cell 0
      have c1 : wr.cell? ⟨w.heap.size + 1, 1, none⟩ = some (.int .i64 (binZ l k j).2) := hP.cell 1
      have d0 : wr.cell? ⟨w.heap.size, 0, none⟩ = some (.int .i64 0) := hO.cell 0
      have d1 : wr.cell? ⟨w.heap.size, 1, none⟩ = some (.int .i64 0) := hO.cell 1
      have g0 : wr.frozen? ⟨w.heap.size, 0, none⟩ = false := hO.free 0
      have g1 : wr.frozen? ⟨w.heap.size, 1, none⟩ = false := hO.free 1
      obtain ⟨u, hu⟩ : ∃ u, u = binZ l k j := ⟨_, rfl⟩
      rw [← hu] at c0 c1
      have HU : Hid (u = binZ l k (min l.length 1000)) := Lib.hid (by rw [hu, hjm])
      clear hu
      have hO2 := (hO.set 0 (.int .i64 u.1)).set 1 (.int .i64 u.2)
      have e0 : ((wr.setCell ⟨w.heap.size, 0, none⟩ (.int .i64 u.1)).setCell ⟨w.heap.size, 1, none⟩ (.int .i64 u.2)).cell? ⟨w.heap.size, 0, none⟩ = some (.int .i64 u.1) := hO2.cell 0
      have e1 : ((wr.setCell ⟨w.heap.size, 0, none⟩ (.int .i64 u.1)).setCell ⟨w.heap.size, 1, none⟩ (.int .i64 u.2)).cell? ⟨w.heap.size, 1, none⟩ = some (.int .i64 u.2) := hO2.cell 1
      have H9 := Lib.hid ((hB.setCell (p := ⟨w.heap.size, 0, none⟩) (Nat.le_refl _) (.int .i64 u.1)).setCell (p := ⟨w.heap.size, 1, none⟩) (Nat.le_refl _) (.int .i64 u.2))
      clear hP hO hO2 hB h4 H3 HX
      by_cases hjl : j < l.length
      · have hjm2 : ¬ (j : Int) < 1000 := by omega
        clear hjm hj
        go_wp2
        refine bodyPost_ret (v := .agg #[.int .i64 u.1, .int .i64 u.2]) (by simp [results, Try.results18, go_sem, e0, e1]) rfl ⟨by rw [HU.out], H9.out⟩
      · clear hjm hj
        go_wp2
        refine bodyPost_ret (v := .agg #[.int .i64 u.1, .int .i64 u.2]) (by simp [results, Try.results18, go_sem, e0, e1]) rfl ⟨by rw [HU.out], H9.out⟩
end Go.Proofs.Ytkeeledkdoiglaa
