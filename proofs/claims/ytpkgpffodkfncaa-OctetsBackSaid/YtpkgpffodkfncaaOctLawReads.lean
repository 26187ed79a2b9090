/- The law of what is read. -/
import Derived.Test.YtpkgpffodkfncaaOctAwake
import Derived.Test.YtpkgpffodkfncaaOctPlain
import Derived.Deep.QuietTactic
namespace Go.Proofs.Ytpkgpffodkfncaa
open Go.RowKit
theorem EyeAt.below {w w' : World} {b : Nat} {s : ByteArray} {a : Nat} {bl : Bool} (h : EyeAt w b s a bl) {B : Nat} (hb : Below B w w') (hB : b < B) : EyeAt w' b s a bl := (hb.block b hB).trans h
theorem eyeBlindQ (b : Nat) (s : ByteArray) (a : Nat) (bl : Bool) (w : World) (h : EyeAt w b s a bl) :
    Calls Try.prog 36 #[.pointer (some ⟨b, 0, none⟩)] w fun e w' => e = .returned (.bool bl) ∧ w' = w := (eyeBlind_any b s a bl w h).mono fun _ _ h => ⟨h.1, h.2.symm⟩
theorem eyeLeftT (b : Nat) (s : ByteArray) (a : Nat) (hs : s.size ≤ maxLen) (ha : a ≤ s.size) (w : World) (h : EyeAt w b s a true) :
    Calls Try.prog 37 #[.pointer (some ⟨b, 0, none⟩)] w fun e w' => e = .returned (.int .i64 0) ∧ ∃ n, w' = w.drewN n := eyeLeft_any b s a true hs ha w h
theorem eyeLeftF (b : Nat) (s : ByteArray) (a : Nat) (hs : s.size ≤ maxLen) (ha : a ≤ s.size) (w : World) (h : EyeAt w b s a false) :
    Calls Try.prog 37 #[.pointer (some ⟨b, 0, none⟩)] w fun e w' => e = .returned (.int .i64 ((s.size : Int) - a)) ∧ ∃ n, w' = w.drewN n := eyeLeft_any b s a false hs ha w h
theorem eyeDoneT (b : Nat) (s : ByteArray) (a : Nat) (hs : s.size ≤ maxLen) (ha : a ≤ s.size) (w : World) (h : EyeAt w b s a true) :
    Calls Try.prog 38 #[.pointer (some ⟨b, 0, none⟩)] w fun e w' => e = .returned (.bool false) ∧ ∃ n, w' = w.drewN n := eyeDone_any b s a true hs ha w h
theorem eyeDoneF (b : Nat) (s : ByteArray) (a : Nat) (z : Bool) (hz : decide (s.size = a) = z) (hs : s.size ≤ maxLen) (ha : a ≤ s.size) (w : World) (h : EyeAt w b s a false) :
    Calls Try.prog 38 #[.pointer (some ⟨b, 0, none⟩)] w fun e w' => e = .returned (.bool z) ∧ ∃ n, w' = w.drewN n := by
  subst hz
  exact eyeDone_any b s a false hs ha w h
set_option maxRecDepth 100000 in
set_option maxHeartbeats 8000000 in
theorem octetsReads_walk {H : Type} {enc : TypeId × Value → H} (s : ByteArray) (hs : s.size ≤ 140737488351232) (v : Value) (d : DataW H) (p : List MemPlace) {w : World}
    (h : DataW.Trod enc Try.prog w 0 (fun _ => true) true 37 v d p) (o : Value.okWide Try.prog w .any 0 37 v) (_ : ∀ x ∈ d.weights Try.prog 37, x ≤ 140737488351232) (_ : World) :
    Calls Try.prog 8 #[.string s, v] w fun e w' => e = .returned (.bool true) ∧ Below w.heap.size w w' := by
  obtain ⟨xs, hI, hok⟩ := items_of h o
  clear h o
  have hI0 := hI
  obtain ⟨a0, cap, g0, off0, rfl, hl, -, -⟩ := hI0
  unfold maxLen at hl
  go_enter Try.func8, Try.ntmps8
  go_wp2_with fail
  refine (oawake_any w).mono ?_
  rintro e w1 ⟨rfl, hb1⟩
  by_cases hguard : s.size ≤ 600 ∧ xs.length ≤ 60
  · obtain ⟨hs6, hl60⟩ := hguard
    have hm : s.size ≤ maxLen := by unfold maxLen; omega
    go_wp2_with fail
    refine (newEye_any s w1).mono ?_
    rintro e w2 ⟨rfl, rfl⟩
    have hE2 : EyeAt (w1.alloc (.cells #[.string s, .int .i64 0, .bool false] 85)) w1.heap.size s 0 false := ObjAt.new _ _ _
    have hE3 := hE2.alloc (.cells #[.string s, .bool false] 42)
    have hR3 : ReyeAt ((w1.alloc (.cells #[.string s, .int .i64 0, .bool false] 85)).alloc (.cells #[.string s, .bool false] 42)) (w1.heap.size + 1) s false := by
      have := ObjAt.new (w1.alloc (.cells #[.string s, .int .i64 0, .bool false] 85)) #[.string s, .bool false] 42
      rw [World.size_alloc] at this
      exact this
    have hsz1 := hb1.size
    have hb3 : Below w.heap.size w ((w1.alloc (.cells #[.string s, .int .i64 0, .bool false] 85)).alloc (.cells #[.string s, .bool false] 42)) := (hb1.alloc hsz1 _).alloc (by simp; omega) _
    have hex : s.extract 0 s.size = s := ByteArray.extract_zero_size
    have HEX := Lib.hid hex
    have HI := Lib.hid hI
    clear hex hI hE2
    go_wp2
    go_loopw [29] (fun i wr => ∃ (k a : Nat) (lost : Bool), k ≤ xs.length ∧ i = .int .i64 (k : Int) ∧ a ≤ s.size ∧ EyeAt wr w1.heap.size s a lost ∧ ReyeAt wr (w1.heap.size + 1) (s.extract a s.size) lost ∧ Below w.heap.size w wr) (fun i _ => xs.length - (intOf i).toNat)
    case atStart => exact ⟨0, 0, false, Nat.zero_le _, rfl, Nat.zero_le _, hE3, by rw [HEX.out]; exact hR3, hb3⟩
    case round =>
      obtain ⟨k, a, lost, hk, rfl, ha, hE, hR, hbel⟩ := hrel
      clear hE3 hR3 hb3
      by_cases hlt : k < xs.length
      · obtain ⟨a', cap', g, off, hform, -, hne, hc⟩ := HI.out.below (Nat.le_refl _) hbel
        obtain ⟨rfl, rfl⟩ : a0 = a' ∧ cap = cap' := by simpa using hform
        obtain ⟨rfl, hg⟩ := hne (by intro e; simp [e] at hlt)
        obtain ⟨c1, c2, c3⟩ := hc k hlt
        obtain ⟨hw0, hn0⟩ := hok xs[k] (List.getElem_mem _)
        clear hform hc hne
        generalize hx : xs[k] = x at *
        have hX : ObjAt (wr.alloc (.cells (itemVals x) 45)) wr.heap.size (itemVals x) 45 := ObjAt.new _ _ _
        have hEx := hE.alloc (.cells (itemVals x) 45)
        have hRx := hR.alloc (.cells (itemVals x) 45)
        have hszr := hbel.size
        have hltE := hE.lt
        have hltR := hR.lt
        have hbx : Below w.heap.size w (wr.alloc (.cells (itemVals x) 45)) := hbel.alloc hszr _
        have hex2 : (s.extract a s.size).size ≤ maxLen := by rw [ByteArray.size_extract]; omega
        have hcases : x.what % 5 = 0 ∨ x.what % 5 = 1 ∨ x.what % 5 = 2 ∨ x.what % 5 = 3 ∨ x.what % 5 = 4 := by omega
        clear hE hR
        rcases hcases with hq | hq | hq | hq | hq
        · have hqi : (x.what : Int) % 5 = 0 := by omega
          have hnn := Oct.num_one _ (Oct.take_len s a lost 1)
          go_wp2_with fail
          refine (eyeByte_any w1.heap.size s a lost hm ha _ hEx).mono ?_
          rintro e w5 ⟨rfl, hE5, hK5⟩
          go_wp2_with fail
          refine (reyeNumber_any (w1.heap.size + 1) _ lost 1 hex2 w5 (hK5.obj hRx (by omega))).mono ?_
          rintro e w6 ⟨rfl, hR6, hK6⟩
          have hE6 := hK6.obj hE5 (by omega)
          have hla := Oct.take_le s a lost 1 ha
          rw [Oct.rtake_take s a lost _ ha] at hR6 ⊢
          rcases ht : Oct.take s a lost 1 with ⟨t, a2, l2⟩
          have hmod : (Oct.num t.data.toList : Int) % 256 = Oct.num t.data.toList := by rw [show ((1 : Nat) : Int) = 1 from rfl, ht] at hnn; dsimp only at hnn; omega
          clear hnn
          rw [ht] at hE6 hR6 hla
          dsimp only at hE6 hR6 hla
          have HT := Lib.hid ht
          have hb6 : Below w.heap.size w w6 := hbx.trans ((hK5.below (by simp; omega) (fun k hk he => by omega)).trans (hK6.below (by have := hK5.size; simp at this; omega) (fun k hk he => by omega)))
          have d0 : w6.cell? ⟨w1.heap.size + 1, 0, none⟩ = some (.string (s.extract a2 s.size)) := hR6.cell 0
          have d1 : w6.cell? ⟨w1.heap.size + 1, 1, none⟩ = some (.bool l2) := hR6.cell 1
          have hxs : (s.extract a2 s.size).size = s.size - a2 := by rw [ByteArray.size_extract]; omega
          have hxi : ((s.extract a2 s.size).size : Int) = (s.size : Int) - a2 := by omega
          have hsub : ((s.size - a2 : Nat) : Int) = (s.size : Int) - a2 := by omega
          clear ht hxs
          cases l2 with
          | true =>
            go_wp2
            go_quiet (first | (go_at_call 36; refine Calls.quiet_of_same (eyeBlindQ w1.heap.size s a2 true _ ?_); exact hE6) | (go_at_call 37; refine Calls.quiet_of (eyeLeftT w1.heap.size s a2 hm hla _ ?_); exact hE6) | (go_at_call 38; refine Calls.quiet_of (eyeDoneT w1.heap.size s a2 hm hla _ ?_); exact hE6))
            go_wp2
            go_roundw
            case rel => exact ⟨k + 1, a2, true, hlt, by go_num, hla, hE6, hR6, ⟨hb6.os, hb6.tape, hb6.output, hb6.size, hb6.block⟩⟩
            case measure => simp [intOf]; omega
          | false =>
            by_cases hz : (s.size : Int) - a2 = 0
            · have hzd : decide (s.size = a2) = true := by simpa using (by omega : s.size = a2)
              go_wp2
              go_quiet (first | (go_at_call 36; refine Calls.quiet_of_same (eyeBlindQ w1.heap.size s a2 false _ ?_); exact hE6) | (go_at_call 37; refine Calls.quiet_of (eyeLeftF w1.heap.size s a2 hm hla _ ?_); exact hE6) | (go_at_call 38; refine Calls.quiet_of (eyeDoneF w1.heap.size s a2 true hzd hm hla _ ?_); exact hE6))
              go_wp2
              go_roundw
              case rel => exact ⟨k + 1, a2, false, hlt, by go_num, hla, hE6, hR6, ⟨hb6.os, hb6.tape, hb6.output, hb6.size, hb6.block⟩⟩
              case measure => simp [intOf]; omega
            · have hz2 : ¬ (s.size : Int) = a2 := by omega
              have hzd : decide (s.size = a2) = false := by simpa using (by omega : ¬ s.size = a2)
              go_wp2
              go_quiet (first | (go_at_call 36; refine Calls.quiet_of_same (eyeBlindQ w1.heap.size s a2 false _ ?_); exact hE6) | (go_at_call 37; refine Calls.quiet_of (eyeLeftF w1.heap.size s a2 hm hla _ ?_); exact hE6) | (go_at_call 38; refine Calls.quiet_of (eyeDoneF w1.heap.size s a2 false hzd hm hla _ ?_); exact hE6))
              go_wp2
              go_roundw
              case rel => exact ⟨k + 1, a2, false, hlt, by go_num, hla, hE6, hR6, ⟨hb6.os, hb6.tape, hb6.output, hb6.size, hb6.block⟩⟩
              case measure => simp [intOf]; omega
        · have hqi : (x.what : Int) % 5 = 1 := by omega
          have hnn := Oct.num_two _ (Oct.take_len s a lost 2)
          go_wp2_with fail
          refine (eyeTwo_any w1.heap.size s a lost hm ha _ hEx).mono ?_
          rintro e w5 ⟨rfl, hE5, hK5⟩
          go_wp2_with fail
          refine (reyeNumber_any (w1.heap.size + 1) _ lost 2 hex2 w5 (hK5.obj hRx (by omega))).mono ?_
          rintro e w6 ⟨rfl, hR6, hK6⟩
          have hE6 := hK6.obj hE5 (by omega)
          have hla := Oct.take_le s a lost 2 ha
          rw [Oct.rtake_take s a lost _ ha] at hR6 ⊢
          rcases ht : Oct.take s a lost 2 with ⟨t, a2, l2⟩
          have hmod : (Oct.num t.data.toList : Int) % 65536 = Oct.num t.data.toList := by rw [show ((2 : Nat) : Int) = 2 from rfl, ht] at hnn; dsimp only at hnn; omega
          clear hnn
          rw [ht] at hE6 hR6 hla
          dsimp only at hE6 hR6 hla
          have HT := Lib.hid ht
          have hb6 : Below w.heap.size w w6 := hbx.trans ((hK5.below (by simp; omega) (fun k hk he => by omega)).trans (hK6.below (by have := hK5.size; simp at this; omega) (fun k hk he => by omega)))
          have d0 : w6.cell? ⟨w1.heap.size + 1, 0, none⟩ = some (.string (s.extract a2 s.size)) := hR6.cell 0
          have d1 : w6.cell? ⟨w1.heap.size + 1, 1, none⟩ = some (.bool l2) := hR6.cell 1
          have hxs : (s.extract a2 s.size).size = s.size - a2 := by rw [ByteArray.size_extract]; omega
          have hxi : ((s.extract a2 s.size).size : Int) = (s.size : Int) - a2 := by omega
          have hsub : ((s.size - a2 : Nat) : Int) = (s.size : Int) - a2 := by omega
          clear ht hxs
          cases l2 with
          | true =>
            go_wp2
            go_quiet (first | (go_at_call 36; refine Calls.quiet_of_same (eyeBlindQ w1.heap.size s a2 true _ ?_); exact hE6) | (go_at_call 37; refine Calls.quiet_of (eyeLeftT w1.heap.size s a2 hm hla _ ?_); exact hE6) | (go_at_call 38; refine Calls.quiet_of (eyeDoneT w1.heap.size s a2 hm hla _ ?_); exact hE6))
            go_wp2
            go_roundw
            case rel => exact ⟨k + 1, a2, true, hlt, by go_num, hla, hE6, hR6, ⟨hb6.os, hb6.tape, hb6.output, hb6.size, hb6.block⟩⟩
            case measure => simp [intOf]; omega
          | false =>
            by_cases hz : (s.size : Int) - a2 = 0
            · have hzd : decide (s.size = a2) = true := by simpa using (by omega : s.size = a2)
              go_wp2
              go_quiet (first | (go_at_call 36; refine Calls.quiet_of_same (eyeBlindQ w1.heap.size s a2 false _ ?_); exact hE6) | (go_at_call 37; refine Calls.quiet_of (eyeLeftF w1.heap.size s a2 hm hla _ ?_); exact hE6) | (go_at_call 38; refine Calls.quiet_of (eyeDoneF w1.heap.size s a2 true hzd hm hla _ ?_); exact hE6))
              go_wp2
              go_roundw
              case rel => exact ⟨k + 1, a2, false, hlt, by go_num, hla, hE6, hR6, ⟨hb6.os, hb6.tape, hb6.output, hb6.size, hb6.block⟩⟩
              case measure => simp [intOf]; omega
            · have hz2 : ¬ (s.size : Int) = a2 := by omega
              have hzd : decide (s.size = a2) = false := by simpa using (by omega : ¬ s.size = a2)
              go_wp2
              go_quiet (first | (go_at_call 36; refine Calls.quiet_of_same (eyeBlindQ w1.heap.size s a2 false _ ?_); exact hE6) | (go_at_call 37; refine Calls.quiet_of (eyeLeftF w1.heap.size s a2 hm hla _ ?_); exact hE6) | (go_at_call 38; refine Calls.quiet_of (eyeDoneF w1.heap.size s a2 false hzd hm hla _ ?_); exact hE6))
              go_wp2
              go_roundw
              case rel => exact ⟨k + 1, a2, false, hlt, by go_num, hla, hE6, hR6, ⟨hb6.os, hb6.tape, hb6.output, hb6.size, hb6.block⟩⟩
              case measure => simp [intOf]; omega
        · have hqi : (x.what : Int) % 5 = 2 := by omega
          go_wp2_with fail
          refine (eyeFour_any w1.heap.size s a lost hm ha _ hEx).mono ?_
          rintro e w5 ⟨rfl, hE5, hK5⟩
          go_wp2_with fail
          refine (reyeNumber_any (w1.heap.size + 1) _ lost 4 hex2 w5 (hK5.obj hRx (by omega))).mono ?_
          rintro e w6 ⟨rfl, hR6, hK6⟩
          have hE6 := hK6.obj hE5 (by omega)
          have hla := Oct.take_le s a lost 4 ha
          rw [Oct.rtake_take s a lost _ ha] at hR6 ⊢
          rcases ht : Oct.take s a lost 4 with ⟨t, a2, l2⟩
          rw [ht] at hE6 hR6 hla
          dsimp only at hE6 hR6 hla
          have HT := Lib.hid ht
          have hb6 : Below w.heap.size w w6 := hbx.trans ((hK5.below (by simp; omega) (fun k hk he => by omega)).trans (hK6.below (by have := hK5.size; simp at this; omega) (fun k hk he => by omega)))
          have d0 : w6.cell? ⟨w1.heap.size + 1, 0, none⟩ = some (.string (s.extract a2 s.size)) := hR6.cell 0
          have d1 : w6.cell? ⟨w1.heap.size + 1, 1, none⟩ = some (.bool l2) := hR6.cell 1
          have hxs : (s.extract a2 s.size).size = s.size - a2 := by rw [ByteArray.size_extract]; omega
          have hxi : ((s.extract a2 s.size).size : Int) = (s.size : Int) - a2 := by omega
          have hsub : ((s.size - a2 : Nat) : Int) = (s.size : Int) - a2 := by omega
          clear ht hxs
          cases l2 with
          | true =>
            go_wp2
            go_quiet (first | (go_at_call 36; refine Calls.quiet_of_same (eyeBlindQ w1.heap.size s a2 true _ ?_); exact hE6) | (go_at_call 37; refine Calls.quiet_of (eyeLeftT w1.heap.size s a2 hm hla _ ?_); exact hE6) | (go_at_call 38; refine Calls.quiet_of (eyeDoneT w1.heap.size s a2 hm hla _ ?_); exact hE6))
            go_wp2
            go_roundw
            case rel => exact ⟨k + 1, a2, true, hlt, by go_num, hla, hE6, hR6, ⟨hb6.os, hb6.tape, hb6.output, hb6.size, hb6.block⟩⟩
            case measure => simp [intOf]; omega
          | false =>
            by_cases hz : (s.size : Int) - a2 = 0
            · have hzd : decide (s.size = a2) = true := by simpa using (by omega : s.size = a2)
              go_wp2
              go_quiet (first | (go_at_call 36; refine Calls.quiet_of_same (eyeBlindQ w1.heap.size s a2 false _ ?_); exact hE6) | (go_at_call 37; refine Calls.quiet_of (eyeLeftF w1.heap.size s a2 hm hla _ ?_); exact hE6) | (go_at_call 38; refine Calls.quiet_of (eyeDoneF w1.heap.size s a2 true hzd hm hla _ ?_); exact hE6))
              go_wp2
              go_roundw
              case rel => exact ⟨k + 1, a2, false, hlt, by go_num, hla, hE6, hR6, ⟨hb6.os, hb6.tape, hb6.output, hb6.size, hb6.block⟩⟩
              case measure => simp [intOf]; omega
            · have hz2 : ¬ (s.size : Int) = a2 := by omega
              have hzd : decide (s.size = a2) = false := by simpa using (by omega : ¬ s.size = a2)
              go_wp2
              go_quiet (first | (go_at_call 36; refine Calls.quiet_of_same (eyeBlindQ w1.heap.size s a2 false _ ?_); exact hE6) | (go_at_call 37; refine Calls.quiet_of (eyeLeftF w1.heap.size s a2 hm hla _ ?_); exact hE6) | (go_at_call 38; refine Calls.quiet_of (eyeDoneF w1.heap.size s a2 false hzd hm hla _ ?_); exact hE6))
              go_wp2
              go_roundw
              case rel => exact ⟨k + 1, a2, false, hlt, by go_num, hla, hE6, hR6, ⟨hb6.os, hb6.tape, hb6.output, hb6.size, hb6.block⟩⟩
              case measure => simp [intOf]; omega
        · have hqi : (x.what : Int) % 5 = 3 := by omega
          go_wp2_with fail
          refine (eyeTake_any w1.heap.size s a lost _ hm ha (by omega) _ hEx).mono ?_
          rintro e w5 ⟨rfl, hE5, hK5⟩
          go_wp2_with fail
          refine (reyeTake_any (w1.heap.size + 1) _ lost _ hex2 w5 (hK5.obj hRx (by omega))).mono ?_
          rintro e w6 ⟨rfl, hR6, hK6⟩
          have hE6 := hK6.obj hE5 (by omega)
          have hla := Oct.take_le s a lost ((x.n : Int) % 1048576 - 2) ha
          rw [Oct.rtake_take s a lost _ ha] at hR6 ⊢
          rcases ht : Oct.take s a lost ((x.n : Int) % 1048576 - 2) with ⟨t, a2, l2⟩
          rw [ht] at hE6 hR6 hla
          dsimp only at hE6 hR6 hla
          have HT := Lib.hid ht
          have hb6 : Below w.heap.size w w6 := hbx.trans ((hK5.below (by simp; omega) (fun k hk he => by omega)).trans (hK6.below (by have := hK5.size; simp at this; omega) (fun k hk he => by omega)))
          have d0 : w6.cell? ⟨w1.heap.size + 1, 0, none⟩ = some (.string (s.extract a2 s.size)) := hR6.cell 0
          have d1 : w6.cell? ⟨w1.heap.size + 1, 1, none⟩ = some (.bool l2) := hR6.cell 1
          have hxs : (s.extract a2 s.size).size = s.size - a2 := by rw [ByteArray.size_extract]; omega
          have hxi : ((s.extract a2 s.size).size : Int) = (s.size : Int) - a2 := by omega
          have hsub : ((s.size - a2 : Nat) : Int) = (s.size : Int) - a2 := by omega
          clear ht hxs
          cases l2 with
          | true =>
            go_wp2
            go_quiet (first | (go_at_call 36; refine Calls.quiet_of_same (eyeBlindQ w1.heap.size s a2 true _ ?_); exact hE6) | (go_at_call 37; refine Calls.quiet_of (eyeLeftT w1.heap.size s a2 hm hla _ ?_); exact hE6) | (go_at_call 38; refine Calls.quiet_of (eyeDoneT w1.heap.size s a2 hm hla _ ?_); exact hE6))
            go_wp2
            go_roundw
            case rel => exact ⟨k + 1, a2, true, hlt, by go_num, hla, hE6, hR6, ⟨hb6.os, hb6.tape, hb6.output, hb6.size, hb6.block⟩⟩
            case measure => simp [intOf]; omega
          | false =>
            by_cases hz : (s.size : Int) - a2 = 0
            · have hzd : decide (s.size = a2) = true := by simpa using (by omega : s.size = a2)
              go_wp2
              go_quiet (first | (go_at_call 36; refine Calls.quiet_of_same (eyeBlindQ w1.heap.size s a2 false _ ?_); exact hE6) | (go_at_call 37; refine Calls.quiet_of (eyeLeftF w1.heap.size s a2 hm hla _ ?_); exact hE6) | (go_at_call 38; refine Calls.quiet_of (eyeDoneF w1.heap.size s a2 true hzd hm hla _ ?_); exact hE6))
              go_wp2
              go_roundw
              case rel => exact ⟨k + 1, a2, false, hlt, by go_num, hla, hE6, hR6, ⟨hb6.os, hb6.tape, hb6.output, hb6.size, hb6.block⟩⟩
              case measure => simp [intOf]; omega
            · have hz2 : ¬ (s.size : Int) = a2 := by omega
              have hzd : decide (s.size = a2) = false := by simpa using (by omega : ¬ s.size = a2)
              go_wp2
              go_quiet (first | (go_at_call 36; refine Calls.quiet_of_same (eyeBlindQ w1.heap.size s a2 false _ ?_); exact hE6) | (go_at_call 37; refine Calls.quiet_of (eyeLeftF w1.heap.size s a2 hm hla _ ?_); exact hE6) | (go_at_call 38; refine Calls.quiet_of (eyeDoneF w1.heap.size s a2 false hzd hm hla _ ?_); exact hE6))
              go_wp2
              go_roundw
              case rel => exact ⟨k + 1, a2, false, hlt, by go_num, hla, hE6, hR6, ⟨hb6.os, hb6.tape, hb6.output, hb6.size, hb6.block⟩⟩
              case measure => simp [intOf]; omega
        · have hqi : (x.what : Int) % 5 = 4 := by omega
          go_wp2_with fail
          refine (eyeSmall_any w1.heap.size s a lost hm ha _ hEx).mono ?_
          rintro e w5 ⟨rfl, hE5, hK5⟩
          go_wp2_with fail
          refine (reyeSmall_any (w1.heap.size + 1) _ lost hex2 w5 (hK5.obj hRx (by omega))).mono ?_
          rintro e w6 ⟨rfl, hR6, hK6⟩
          have hE6 := hK6.obj hE5 (by omega)
          have hla := Oct.small_le s a lost ha
          rw [Oct.rsmall_small s a lost ha] at hR6 ⊢
          rcases ht : Oct.small s a lost with ⟨t, a2, l2⟩
          rw [ht] at hE6 hR6 hla
          dsimp only at hE6 hR6 hla
          have HT := Lib.hid ht
          have hb6 : Below w.heap.size w w6 := hbx.trans ((hK5.below (by simp; omega) (fun k hk he => by omega)).trans (hK6.below (by have := hK5.size; simp at this; omega) (fun k hk he => by omega)))
          have d0 : w6.cell? ⟨w1.heap.size + 1, 0, none⟩ = some (.string (s.extract a2 s.size)) := hR6.cell 0
          have d1 : w6.cell? ⟨w1.heap.size + 1, 1, none⟩ = some (.bool l2) := hR6.cell 1
          have hxs : (s.extract a2 s.size).size = s.size - a2 := by rw [ByteArray.size_extract]; omega
          have hxi : ((s.extract a2 s.size).size : Int) = (s.size : Int) - a2 := by omega
          have hsub : ((s.size - a2 : Nat) : Int) = (s.size : Int) - a2 := by omega
          clear ht hxs
          cases l2 with
          | true =>
            go_wp2
            go_quiet (first | (go_at_call 36; refine Calls.quiet_of_same (eyeBlindQ w1.heap.size s a2 true _ ?_); exact hE6) | (go_at_call 37; refine Calls.quiet_of (eyeLeftT w1.heap.size s a2 hm hla _ ?_); exact hE6) | (go_at_call 38; refine Calls.quiet_of (eyeDoneT w1.heap.size s a2 hm hla _ ?_); exact hE6))
            go_wp2
            go_roundw
            case rel => exact ⟨k + 1, a2, true, hlt, by go_num, hla, hE6, hR6, ⟨hb6.os, hb6.tape, hb6.output, hb6.size, hb6.block⟩⟩
            case measure => simp [intOf]; omega
          | false =>
            by_cases hz : (s.size : Int) - a2 = 0
            · have hzd : decide (s.size = a2) = true := by simpa using (by omega : s.size = a2)
              go_wp2
              go_quiet (first | (go_at_call 36; refine Calls.quiet_of_same (eyeBlindQ w1.heap.size s a2 false _ ?_); exact hE6) | (go_at_call 37; refine Calls.quiet_of (eyeLeftF w1.heap.size s a2 hm hla _ ?_); exact hE6) | (go_at_call 38; refine Calls.quiet_of (eyeDoneF w1.heap.size s a2 true hzd hm hla _ ?_); exact hE6))
              go_wp2
              go_roundw
              case rel => exact ⟨k + 1, a2, false, hlt, by go_num, hla, hE6, hR6, ⟨hb6.os, hb6.tape, hb6.output, hb6.size, hb6.block⟩⟩
              case measure => simp [intOf]; omega
            · have hz2 : ¬ (s.size : Int) = a2 := by omega
              have hzd : decide (s.size = a2) = false := by simpa using (by omega : ¬ s.size = a2)
              go_wp2
              go_quiet (first | (go_at_call 36; refine Calls.quiet_of_same (eyeBlindQ w1.heap.size s a2 false _ ?_); exact hE6) | (go_at_call 37; refine Calls.quiet_of (eyeLeftF w1.heap.size s a2 hm hla _ ?_); exact hE6) | (go_at_call 38; refine Calls.quiet_of (eyeDoneF w1.heap.size s a2 false hzd hm hla _ ?_); exact hE6))
              go_wp2
              go_roundw
              case rel => exact ⟨k + 1, a2, false, hlt, by go_num, hla, hE6, hR6, ⟨hb6.os, hb6.tape, hb6.output, hb6.size, hb6.block⟩⟩
              case measure => simp [intOf]; omega
      · have hkl : k = xs.length := by omega
        subst hkl
        go_wp2
        go_ret
        exact ⟨rfl, hbel⟩
  · have hg : ¬ ((s.size : Int) ≤ 600 ∧ (xs.length : Int) ≤ 60) := by omega
    by_cases hs6 : (s.size : Int) ≤ 600
    · have hl6 : ¬ ((xs.length : Int) ≤ 60) := fun h => hg ⟨hs6, h⟩
      clear hg hguard
      go_wp2
      go_ret
      exact ⟨rfl, hb1⟩
    · clear hg hguard
      go_wp2
      go_ret
      exact ⟨rfl, hb1⟩
end Go.Proofs.Ytpkgpffodkfncaa
