/- The law of what is written and read again. -/
import Derived.Test.YtpkgpffodkfncaaOctLawReads
import Derived.Test.YtpkgpffodkfncaaOctLawWrites
import Derived.Test.YtpkgpffodkfncaaOctPlain2
namespace Go.Proofs.Ytpkgpffodkfncaa
open Go.RowKit
section
variable (b : Nat) (s : ByteArray) (a : Nat) (bl : Bool) (t : ByteArray) (a2 : Nat) (l2 : Bool) (w : World)
theorem eyeByteX (m : Nat) (ht : Oct.take s a bl 1 = (t, a2, l2)) (hn : Oct.num t.data.toList % 256 = m) (hs : s.size ≤ maxLen) (ha : a ≤ s.size) (h : EyeAt w b s a bl) :
    Calls Try.prog 28 #[.pointer (some ⟨b, 0, none⟩)] w fun e w' => e = .returned (.int .u8 (m : Int)) ∧ EyeAt w' b s a2 l2 ∧ Keep (· = b) w w' := by
  have := eyeByte_any b s a bl hs ha w h
  rw [ht] at this
  dsimp only at this
  rw [hn] at this
  exact this
theorem eyeTwoX (m : Nat) (ht : Oct.take s a bl 2 = (t, a2, l2)) (hn : Oct.num t.data.toList % 65536 = m) (hs : s.size ≤ maxLen) (ha : a ≤ s.size) (h : EyeAt w b s a bl) :
    Calls Try.prog 30 #[.pointer (some ⟨b, 0, none⟩)] w fun e w' => e = .returned (.int .u16 (m : Int)) ∧ EyeAt w' b s a2 l2 ∧ Keep (· = b) w w' := by
  have := eyeTwo_any b s a bl hs ha w h
  rw [ht] at this
  dsimp only at this
  rw [hn] at this
  exact this
theorem eyeFourX (m : Nat) (ht : Oct.take s a bl 4 = (t, a2, l2)) (hn : Oct.num t.data.toList = m) (hs : s.size ≤ maxLen) (ha : a ≤ s.size) (h : EyeAt w b s a bl) :
    Calls Try.prog 31 #[.pointer (some ⟨b, 0, none⟩)] w fun e w' => e = .returned (.int .u32 (m : Int)) ∧ EyeAt w' b s a2 l2 ∧ Keep (· = b) w w' := by
  have := eyeFour_any b s a bl hs ha w h
  rw [ht] at this
  dsimp only at this
  rw [hn] at this
  exact this
theorem eyeTakeX (n : Int) (ht : Oct.take s a bl n = (t, a2, l2)) (hn : -9223372036854775808 ≤ n ∧ n ≤ 9223372036854775807) (hs : s.size ≤ maxLen) (ha : a ≤ s.size) (h : EyeAt w b s a bl) :
    Calls Try.prog 32 #[.pointer (some ⟨b, 0, none⟩), .int .i64 n] w fun e w' => e = .returned (.string t) ∧ EyeAt w' b s a2 l2 ∧ Keep (· = b) w w' := by
  have := eyeTake_any b s a bl n hs ha hn w h
  rw [ht] at this
  exact this
theorem eyeSmallX (ht : Oct.small s a bl = (t, a2, l2)) (hs : s.size ≤ maxLen) (ha : a ≤ s.size) (h : EyeAt w b s a bl) :
    Calls Try.prog 34 #[.pointer (some ⟨b, 0, none⟩)] w fun e w' => e = .returned (.string t) ∧ EyeAt w' b s a2 l2 ∧ Keep (· = b) w w' := by
  have := eyeSmall_any b s a bl hs ha w h
  rw [ht] at this
  exact this
end
set_option maxRecDepth 100000 in
set_option maxHeartbeats 8000000 in
theorem octetsBack_walk {H : Type} {enc : TypeId × Value → H} (v : Value) (d : DataW H) (p : List MemPlace) {w : World}
    (h : DataW.Trod enc Try.prog w 0 (fun _ => true) true 37 v d p) (o : Value.okWide Try.prog w .any 0 37 v) (_ : ∀ x ∈ d.weights Try.prog 37, x ≤ 140737488351232) (_ : World) :
    Calls Try.prog 9 #[v] w fun e w' => e = .returned (.bool true) ∧ Below w.heap.size w w' := by
  obtain ⟨xs, hI, hok⟩ := items_of h o
  clear h o
  have hI0 := hI
  obtain ⟨a0, cap, g0, off0, rfl, hl, -, -⟩ := hI0
  unfold maxLen at hl
  go_enter Try.func9, Try.ntmps9
  go_wp2_with fail
  refine (oawake_any w).mono ?_
  rintro e w1 ⟨rfl, hb1⟩
  go_wp2_with fail
  refine (small_any _ xs w1 (hI.below (Nat.le_refl _) hb1)).mono ?_
  rintro e w2 ⟨rfl, hb2⟩
  have hb02 := hb1.trans (hb2.mono hb1.size)
  cases hsm : smallB xs with
  | false =>
    go_wp2
    go_ret
    exact ⟨rfl, hb02⟩
  | true =>
    obtain ⟨hl60, hs300⟩ := small_facts hsm
    have hle := encs_le xs hs300
    clear hsm
    go_wp2_with fail
    refine (newPen_any w2).mono ?_
    rintro e w3 ⟨rfl, hP3, hb3⟩
    have hb03 := hb02.trans (hb3.mono hb02.size)
    go_wp2_with fail
    refine (write_any _ xs w2.heap.size w3 hl60 hs300 hok (fun wr hr => hI.below (Nat.le_refl _) (hb03.trans (hr.mono hb02.size))) hP3).mono ?_
    rintro e w4 ⟨rfl, hP4, hb4⟩
    have hb04 : Below w.heap.size w w4 := hb03.trans (hb4.mono hb02.size)
    go_wp2_with fail
    refine (penString_any w2.heap.size _ w4 hP4).mono ?_
    rintro e w' ⟨rfl, rfl⟩
    obtain ⟨S, hS⟩ : ∃ S : ByteArray, S = ⟨(encs xs).toArray⟩ := ⟨_, rfl⟩
    rw [← hS]
    have hSS : S.size = (encs xs).length := by rw [hS]; show (encs xs).toArray.size = _; simp
    have HS := Lib.hid hS
    have HSS := Lib.hid hSS
    have hm : S.size ≤ maxLen := by unfold maxLen; omega
    clear hS hP3 hP4
    go_wp2_with fail
    refine (newEye_any S w4).mono ?_
    rintro e w5 ⟨rfl, rfl⟩
    have hE0 : EyeAt (w4.alloc (.cells #[.string S, .int .i64 0, .bool false] 85)) w4.heap.size S 0 false := ObjAt.new _ _ _
    have hsz4 := hb04.size
    have hb05 : Below w.heap.size w (w4.alloc (.cells #[.string S, .int .i64 0, .bool false] 85)) := hb04.alloc hsz4 _
    have HI := Lib.hid hI
    have HS3 := Lib.hid hs300
    clear hI hs300 hSS hle
    go_wp2
    go_loopw [29] (fun i wr => ∃ (k a : Nat), k ≤ xs.length ∧ i = .int .i64 (k : Int) ∧ Hid (a = (encs (xs.take k)).length) ∧ EyeAt wr w4.heap.size S a false ∧ Below w.heap.size w wr) (fun i _ => xs.length - (intOf i).toNat)
    case atStart => exact ⟨0, 0, Nat.zero_le _, rfl, rfl, hE0, hb05⟩
    case round =>
      obtain ⟨k, a, hk, rfl, HA, hE, hbel⟩ := hrel
      clear hE0 hb05
      by_cases hlt : k < xs.length
      · obtain ⟨a', cap', g, off, hform, -, hne, hc⟩ := HI.out.below (Nat.le_refl _) hbel
        obtain ⟨rfl, rfl⟩ : a0 = a' ∧ cap = cap' := by simpa using hform
        obtain ⟨rfl, hg⟩ := hne (by intro e; simp [e] at hlt)
        obtain ⟨c1, c2, c3⟩ := hc k hlt
        obtain ⟨hw0, hn0⟩ := hok xs[k] (List.getElem_mem _)
        have hs0 := HS3.out xs[k] (List.getElem_mem _)
        have hsplit := encs_split xs k hlt
        have hnext : encs (xs.take (k + 1)) = encs (xs.take k) ++ xs[k].enc := by rw [take_items xs k hlt, encs_snoc]
        have hSsz := HSS.out
        clear hform hc hne
        generalize hx : xs[k] = x at *
        generalize hL : encs (xs.take k) = L at *
        generalize hR : encs (xs.drop (k + 1)) = R at *
        have haL : a = L.length := HA.out
        subst haL
        have hS2 : S = ⟨(L ++ (x.enc ++ R)).toArray⟩ := by rw [HS.out, hsplit]
        have ha : L.length ≤ S.size := by rw [hSsz, hsplit, List.length_append]; omega
        have hA2 : L.length + x.enc.length = (encs (xs.take (k + 1))).length := by rw [hnext, List.length_append]
        have HA2 := Lib.hid hA2
        have HS2 := Lib.hid hS2
        clear hsplit hnext hSsz hS2 hA2 hL hR HA
        have hX : ObjAt (wr.alloc (.cells (itemVals x) 45)) wr.heap.size (itemVals x) 45 := ObjAt.new _ _ _
        have hEx := hE.alloc (.cells (itemVals x) 45)
        have hszr := hbel.size
        have hltE := hE.lt
        have hbx : Below w.heap.size w (wr.alloc (.cells (itemVals x) 45)) := hbel.alloc hszr _
        have hcases : x.what % 5 = 0 ∨ x.what % 5 = 1 ∨ x.what % 5 = 2 ∨ x.what % 5 = 3 ∨ x.what % 5 = 4 := by omega
        clear hE
        rcases hcases with hq | hq | hq | hq | hq
        · have hqi : (x.what : Int) % 5 = 0 := by omega
          have henc : x.enc = Oct.bts (x.n % 256) 1 := by simp only [Item.enc, hq]
          have ht := oct_take_at L (Oct.bts (x.n % 256) 1) R S (by rw [HS2.out, henc])
          rw [show ((Oct.bts (x.n % 256) 1).length : Int) = 1 from by rw [Oct.bts_length]; rfl, ← henc] at ht
          have HT := Lib.hid ht
          have HN := Lib.hid (show Oct.num (⟨x.enc.toArray⟩ : ByteArray).data.toList % 256 = x.n % 256 by rw [henc]; exact num_bts1 x.n)
          clear ht
          clear hq henc
          go_wp2
          go_region_with (first | (go_at_call 28; refine (eyeByteX w4.heap.size S L.length false _ _ _ _ (x.n % 256) HT.out HN.out hm ha ?_).mono ?_; exact hEx; rintro e w5 ⟨rfl, hE5, hK5⟩; have dX : w5.cell? ⟨wr.heap.size, 1, none⟩ = some (.int .u32 (x.n : Int)) := (hK5.obj (by exact hX) (by omega)).cell 1))
          all_goals
            have hE5' := hE5
            have hb5 : Below w.heap.size w w5 := hbx.trans ((⟨hK5.os, hK5.tape, hK5.output, hK5.size, hK5.block⟩ : Keep (· = w4.heap.size) (wr.alloc (.cells (itemVals x) 45)) w5).below (by simp; omega) (fun k hk he => by omega))
            clear hE5 hK5
            go_wp2
            go_roundw
            case rel => exact ⟨k + 1, _, hlt, by go_num, Lib.hid HA2.out, hE5', hb5⟩
            case measure => simp [intOf]; omega
        · have hqi : (x.what : Int) % 5 = 1 := by omega
          have henc : x.enc = Oct.bts (x.n % 65536) 2 := by simp only [Item.enc, hq]
          have ht := oct_take_at L (Oct.bts (x.n % 65536) 2) R S (by rw [HS2.out, henc])
          rw [show ((Oct.bts (x.n % 65536) 2).length : Int) = 2 from by rw [Oct.bts_length]; rfl, ← henc] at ht
          have HT := Lib.hid ht
          have HN := Lib.hid (show Oct.num (⟨x.enc.toArray⟩ : ByteArray).data.toList % 65536 = x.n % 65536 by rw [henc]; exact num_bts2 x.n)
          clear ht
          have hwr : IntKind.u16.wrap (x.n : Int) = (x.n : Int) % 65536 := by first | exact IntKind.wrap_u16 _ | (rw [IntKind.wrap_u16]; rfl)
          clear hq henc
          go_wp2
          go_region_with (first | (go_at_call 30; refine (eyeTwoX w4.heap.size S L.length false _ _ _ _ (x.n % 65536) HT.out HN.out hm ha ?_).mono ?_; exact hEx; rintro e w5 ⟨rfl, hE5, hK5⟩; have dX : w5.cell? ⟨wr.heap.size, 1, none⟩ = some (.int .u32 (x.n : Int)) := (hK5.obj (by exact hX) (by omega)).cell 1))
          all_goals
            have hE5' := hE5
            have hb5 : Below w.heap.size w w5 := hbx.trans ((⟨hK5.os, hK5.tape, hK5.output, hK5.size, hK5.block⟩ : Keep (· = w4.heap.size) (wr.alloc (.cells (itemVals x) 45)) w5).below (by simp; omega) (fun k hk he => by omega))
            clear hE5 hK5
            go_wp2
            go_roundw
            case rel => exact ⟨k + 1, _, hlt, by go_num, Lib.hid HA2.out, hE5', hb5⟩
            case measure => simp [intOf]; omega
        · have hqi : (x.what : Int) % 5 = 2 := by omega
          have henc : x.enc = Oct.bts x.n 4 := by simp only [Item.enc, hq]
          have ht := oct_take_at L (Oct.bts x.n 4) R S (by rw [HS2.out, henc])
          rw [show ((Oct.bts x.n 4).length : Int) = 4 from by rw [Oct.bts_length]; rfl, ← henc] at ht
          have HT := Lib.hid ht
          have HN := Lib.hid (show Oct.num (⟨x.enc.toArray⟩ : ByteArray).data.toList = x.n by rw [henc]; exact num_bts4 x.n hn0)
          clear ht
          clear hq henc
          go_wp2
          go_region_with (first | (go_at_call 31; refine (eyeFourX w4.heap.size S L.length false _ _ _ _ (x.n) HT.out HN.out hm ha ?_).mono ?_; exact hEx; rintro e w5 ⟨rfl, hE5, hK5⟩; have dX : w5.cell? ⟨wr.heap.size, 1, none⟩ = some (.int .u32 (x.n : Int)) := (hK5.obj (by exact hX) (by omega)).cell 1))
          all_goals
            have hE5' := hE5
            have hb5 : Below w.heap.size w w5 := hbx.trans ((⟨hK5.os, hK5.tape, hK5.output, hK5.size, hK5.block⟩ : Keep (· = w4.heap.size) (wr.alloc (.cells (itemVals x) 45)) w5).below (by simp; omega) (fun k hk he => by omega))
            clear hE5 hK5
            go_wp2
            go_roundw
            case rel => exact ⟨k + 1, _, hlt, by go_num, Lib.hid HA2.out, hE5', hb5⟩
            case measure => simp [intOf]; omega
        · have hqi : (x.what : Int) % 5 = 3 := by omega
          have henc : x.enc = x.s.data.toList := by simp only [Item.enc, hq]
          have ht := oct_take_at L x.s.data.toList R S (by rw [HS2.out, henc])
          have hTx : (⟨x.s.data.toList.toArray⟩ : ByteArray) = x.s := by apply ext_bytes; rfl
          rw [hTx, ← henc, show (x.enc.length : Int) = (x.s.size : Int) from by rw [henc]; simp] at ht
          have HT := Lib.hid ht
          clear ht hTx
          clear hq henc
          go_wp2
          go_region_with (first | (go_at_call 32; refine (eyeTakeX w4.heap.size S L.length false _ _ _ _ _ HT.out (by omega) hm ha ?_).mono ?_; exact hEx; rintro e w5 ⟨rfl, hE5, hK5⟩; have dX : w5.cell? ⟨wr.heap.size, 2, none⟩ = some (.string x.s) := (hK5.obj (by exact hX) (by omega)).cell 2))
          all_goals
            have hE5' := hE5
            have hb5 : Below w.heap.size w w5 := hbx.trans ((⟨hK5.os, hK5.tape, hK5.output, hK5.size, hK5.block⟩ : Keep (· = w4.heap.size) (wr.alloc (.cells (itemVals x) 45)) w5).below (by simp; omega) (fun k hk he => by omega))
            clear hE5 hK5
            go_wp2
            go_roundw
            case rel => exact ⟨k + 1, _, hlt, by go_num, Lib.hid HA2.out, hE5', hb5⟩
            case measure => simp [intOf]; omega
        · have hqi : (x.what : Int) % 5 = 4 := by omega
          by_cases h255 : x.s.size ≤ 255
          · skip
            have henc : x.enc = UInt8.ofNat x.s.size :: x.s.data.toList := by simp only [Item.enc, hq, if_pos h255]
            have ht := oct_small_at L R x.s S h255 (by rw [HS2.out, henc])
            rw [← henc] at ht
            have HT := Lib.hid ht
            have h255i : (x.s.size : Int) ≤ 255 := by omega
            have h255d : decide (255 < (x.s.size : Int)) = false := by simpa using h255i
            clear ht
            clear hq henc
            go_wp2
            go_region_with (first | (go_at_call 34; refine (eyeSmallX w4.heap.size S L.length false _ _ _ _ HT.out hm ha ?_).mono ?_; exact hEx; rintro e w5 ⟨rfl, hE5, hK5⟩; have dX : w5.cell? ⟨wr.heap.size, 2, none⟩ = some (.string x.s) := (hK5.obj (by exact hX) (by omega)).cell 2))
            all_goals
              have hE5' := hE5
              have hb5 : Below w.heap.size w w5 := hbx.trans ((⟨hK5.os, hK5.tape, hK5.output, hK5.size, hK5.block⟩ : Keep (· = w4.heap.size) (wr.alloc (.cells (itemVals x) 45)) w5).below (by simp; omega) (fun k hk he => by omega))
              clear hE5 hK5
              go_wp2
              go_roundw
              case rel => exact ⟨k + 1, _, hlt, by go_num, Lib.hid HA2.out, hE5', hb5⟩
              case measure => simp [intOf]; omega
          · have henc : x.enc = [] := by simp only [Item.enc, hq, if_neg h255]
            have HE := Lib.hid henc
            have h255i : ¬ (x.s.size : Int) ≤ 255 := by omega
            have h255t : ((255 : Int) < (x.s.size : Int)) = True := eq_true (by omega)
            have hE5' : EyeAt (wr.alloc (.cells (itemVals x) 45)) w4.heap.size S (L.length + x.enc.length) false := by rw [henc]; exact hEx
            clear henc hq hEx
            go_wp2
            go_quiet (fail)
            have hb5 : Below w.heap.size w ((wr.alloc (.cells (itemVals x) 45)).drewN nq) := ⟨hbx.os, hbx.tape, hbx.output, hbx.size, hbx.block⟩
            go_wp2
            go_roundw
            case rel => exact ⟨k + 1, _, hlt, by go_num, Lib.hid HA2.out, hE5', hb5⟩
            case measure => simp [intOf]; omega
      · have hkl : k = xs.length := by omega
        subst hkl
        have haS : S.size = a := by rw [HSS.out, HA.out, List.take_length]
        have hn1 := Lib.hid (oct_take_none S a haS)
        have hz := Lib.hid (show decide (S.size = a) = true by simpa using haS)
        have ha : a ≤ S.size := by omega
        clear haS
        go_wp2_with fail
        refine (eyeDoneF w4.heap.size S a true hz.out hm ha wr hE).mono ?_
        rintro e w6 ⟨rfl, n6, rfl⟩
        have hE6 : EyeAt (wr.drewN n6) w4.heap.size S a false := hE
        have hb6 : Below w.heap.size w (wr.drewN n6) := ⟨hbel.os, hbel.tape, hbel.output, hbel.size, hbel.block⟩
        go_wp2_with fail
        refine (eyeBlindQ w4.heap.size S a false (wr.drewN n6) hE6).mono ?_
        rintro e w7 ⟨rfl, rfl⟩
        go_wp2_with fail
        refine (eyeByteX w4.heap.size S a false _ _ _ (wr.drewN n6) 0 hn1.out rfl hm ha hE6).mono ?_
        rintro e w7 ⟨rfl, hE7, hK7⟩
        go_wp2_with fail
        refine (eyeBlind_any w4.heap.size S a true w7 hE7).mono ?_
        rintro e w8 ⟨rfl, rfl⟩
        go_wp2_with fail
        refine (eyeDoneT w4.heap.size S a hm ha w7 hE7).mono ?_
        rintro e w9 ⟨rfl, n9, rfl⟩
        go_wp2
        go_ret
        exact ⟨rfl, hb6.trans ((hK7.drewN n9).below hb6.size (fun k hk he => by omega))⟩
end Go.Proofs.Ytpkgpffodkfncaa
