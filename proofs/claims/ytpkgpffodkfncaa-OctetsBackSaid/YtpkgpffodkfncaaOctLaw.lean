/- The laws' own functions: bytes of the document, things that are written. -/
import Derived.Test.YtpkgpffodkfncaaOctPen
import Derived.Deep.RegionWith
namespace Go.Proofs.Ytpkgpffodkfncaa
open Go.RowKit
set_option maxRecDepth 100000 in
theorem rbytes_any (n : Nat) (hn : n < 4294967296) (c : Nat) (hc : c ≤ 4) (w : World) :
    Calls Try.prog 66 #[.int .u32 (n : Int), .int .i64 (c : Int)] w fun e w' => e = .returned (.string ⟨(Oct.bts n c).toArray⟩) ∧ Below w.heap.size w w' := by
  go_enter Try.func66, Try.ntmps66
  go_wp2
  go_loopw [0, 5, 6] (fun m s i wr => ∃ k : Nat, k ≤ c ∧ i = .int .i64 (k : Int) ∧ m = .int .u32 (n / 256 ^ k : Nat) ∧ s = .string ⟨(Oct.bts n k).toArray⟩ ∧ Below w.heap.size w wr) (fun _ _ i _ => c - (intOf i).toNat)
  case atStart => exact ⟨0, by omega, rfl, by simp, rfl, Below.refl _ _⟩
  case round =>
    obtain ⟨k, hk, rfl, rfl, rfl, hbel⟩ := hrel
    have hdl : n / 256 ^ k ≤ n := Nat.div_le_self _ _
    have hnext : n / 256 ^ (k + 1) = n / 256 ^ k / 256 := by rw [Nat.pow_succ, Nat.div_div_eq_div_mul]
    have HN := Lib.hid hnext
    clear hnext
    generalize hm : n / 256 ^ k = m at *
    have HM := Lib.hid hm
    clear hm
    by_cases hlt : k < c
    · have hl := lit1_string wr
      have hz1 : ∀ x : Int, (strOfNums [x]).size = 1 := fun x => rfl
      have hz2 : (Oct.bts n k).length ≤ 4 := by rw [Oct.bts_length]; omega
      have hcat : strOfNums [(m : Int) % 256] ++ (⟨(Oct.bts n k).toArray⟩ : ByteArray) = ⟨(Oct.bts n (k + 1)).toArray⟩ := by
        apply ext_bytes
        rw [ByteArray.data_append, Array.toList_append, strOfNums_data]
        simp only [Oct.bts, List.map_cons, List.map_nil]
        rw [HM.out, show ((m : Int) % 256).toNat = m % 256 from by omega]
        rfl
      have HC := Lib.hid hcat
      clear hcat
      go_wp2
      go_roundw
      case rel => exact ⟨k + 1, hlt, by go_num, by rw [HN.out]; go_num, by rw [HC.out], hbel.alloc hbel.size _⟩
      case measure => simp [intOf]; omega
    · have hkc : k = c := by omega
      subst hkc
      go_wp2
      go_ret
      exact ⟨rfl, hbel⟩
theorem rbytes_int (a : Int) (ha : 0 ≤ a ∧ a ≤ 4294967295) (c : Nat) (hc : c ≤ 4) (w : World) :
    Calls Try.prog 66 #[.int .u32 a, .int .i64 (c : Int)] w fun e w' => e = .returned (.string ⟨(Oct.bts a.toNat c).toArray⟩) ∧ Below w.heap.size w w' := by
  obtain ⟨n, rfl⟩ := Int.eq_ofNat_of_zero_le ha.1
  exact rbytes_any n (by omega) c hc w
theorem rbytes_one (a : Int) (ha : 0 ≤ a ∧ a ≤ 4294967295) (w : World) :
    Calls Try.prog 66 #[.int .u32 a, .int .i64 1] w fun e w' => e = .returned (.string ⟨(Oct.bts a.toNat 1).toArray⟩) ∧ Below w.heap.size w w' :=
  rbytes_int a ha 1 (by omega) w
/-- A thing that is written. -/
structure Item where
  what : Nat
  n : Nat
  s : ByteArray
def Item.ok (x : Item) : Prop := x.what < 256 ∧ x.n < 4294967296
/-- A slice of things, as it came in. -/
def ItemsAt (w : World) (v : Value) (xs : List Item) : Prop :=
  ∃ a cap g off, v = .slice a xs.length cap ∧ xs.length ≤ maxLen ∧ (xs ≠ [] → a = some ⟨g, off, none⟩ ∧ g < w.heap.size) ∧ ∀ i (h : i < xs.length),
    w.cell? ⟨g, off + i * 3, none⟩ = some (.int .u8 (xs[i].what : Int)) ∧ w.cell? ⟨g, off + i * 3 + 1, none⟩ = some (.int .u32 (xs[i].n : Int)) ∧ w.cell? ⟨g, off + i * 3 + 2, none⟩ = some (.string xs[i].s)
theorem ItemsAt.below {w w' : World} {v : Value} {xs : List Item} (h : ItemsAt w v xs) {B : Nat} (hB : w.heap.size ≤ B) (hb : Below B w w') : ItemsAt w' v xs := by
  obtain ⟨a, cap, g, off, rfl, hl, hne, hc⟩ := h
  refine ⟨a, cap, g, off, rfl, hl, fun hx => ⟨(hne hx).1, Nat.lt_of_lt_of_le (hne hx).2 hb.size⟩, fun i hi => ?_⟩
  have hg := (hne (by intro e; simp [e] at hi)).2
  obtain ⟨h1, h2, h3⟩ := hc i hi
  exact ⟨(hb.cell (p := ⟨g, off + i * 3, none⟩) (Nat.lt_of_lt_of_le hg hB)).trans h1, (hb.cell (p := ⟨g, off + i * 3 + 1, none⟩) (Nat.lt_of_lt_of_le hg hB)).trans h2, (hb.cell (p := ⟨g, off + i * 3 + 2, none⟩) (Nat.lt_of_lt_of_le hg hB)).trans h3⟩
def smallB (xs : List Item) : Bool := decide (xs.length ≤ 60) && xs.all fun x => decide (x.s.size ≤ 300)
set_option maxRecDepth 100000 in
theorem small_any (v : Value) (xs : List Item) (w : World) (h : ItemsAt w v xs) :
    Calls Try.prog 39 #[v] w fun e w' => e = .returned (.bool (smallB xs)) ∧ Below w.heap.size w w' := by
  have hI := h
  obtain ⟨a, cap, g, off, rfl, hl, hne, hc⟩ := h
  unfold maxLen at hl
  by_cases h60 : xs.length ≤ 60
  · go_enter Try.func39, Try.ntmps39
    go_wp2
    go_loopw [10] (fun i wr => ∃ k : Nat, k ≤ xs.length ∧ i = .int .i64 (k : Int) ∧ (∀ j (hj : j < xs.length), j < k → xs[j].s.size ≤ 300) ∧ Below w.heap.size w wr) (fun i _ => xs.length - (intOf i).toNat)
    case atStart => exact ⟨0, Nat.zero_le _, rfl, fun _ _ h => absurd h (by omega), Below.refl _ _⟩
    case round =>
      obtain ⟨k, hk, rfl, hall, hbel⟩ := hrel
      by_cases hlt : k < xs.length
      · obtain ⟨rfl, hg⟩ := hne (by intro e; simp [e] at hlt)
        obtain ⟨c1, c2, c3⟩ := hc k hlt
        have d1 := (hbel.cell (p := ⟨g, off + k * 3, none⟩) hg).trans c1
        have d2 := (hbel.cell (p := ⟨g, off + k * 3 + 1, none⟩) hg).trans c2
        have d3 := (hbel.cell (p := ⟨g, off + k * 3 + 2, none⟩) hg).trans c3
        clear c1 c2 c3
        by_cases hs : xs[k].s.size ≤ 300
        · go_wp2
          go_roundw
          case rel =>
            refine ⟨k + 1, hlt, by go_num, fun j hj hjk => ?_, hbel.alloc hbel.size _⟩
            by_cases e : j = k
            · subst e; exact hs
            · exact hall j hj (by omega)
          case measure => simp [intOf]; omega
        · have hf : smallB xs = false := by
            rw [smallB, Bool.and_eq_false_iff]
            right
            rw [List.all_eq_false]
            exact ⟨xs[k], List.getElem_mem _, by simpa using hs⟩
          have HF := Lib.hid hf
          clear hf
          go_wp2
          go_ret
          exact ⟨ret_bool HF.out.symm, hbel.alloc hbel.size _⟩
      · have hf : smallB xs = true := by
          rw [smallB, Bool.and_eq_true]
          refine ⟨by simpa using h60, ?_⟩
          rw [List.all_eq_true]
          intro x hx
          obtain ⟨j, hj, rfl⟩ := List.getElem_of_mem hx
          simpa using hall j hj (by omega)
        have HF := Lib.hid hf
        clear hf
        go_wp2
        go_ret
        exact ⟨ret_bool HF.out.symm, hbel⟩
  · have hf : smallB xs = false := by simp [smallB, h60]
    have HF := Lib.hid hf
    clear hf
    go_enter Try.func39, Try.ntmps39
    go_wp2
    go_ret
    exact ⟨ret_bool HF.out.symm, Below.refl _ _⟩
/-- What a thing's bytes are. -/
def Item.enc (x : Item) : List UInt8 :=
  match x.what % 5 with
  | 0 => Oct.bts (x.n % 256) 1
  | 1 => Oct.bts (x.n % 65536) 2
  | 2 => Oct.bts x.n 4
  | 3 => x.s.data.toList
  | _ => if x.s.size ≤ 255 then UInt8.ofNat x.s.size :: x.s.data.toList else []
def encs (xs : List Item) : List UInt8 := xs.flatMap Item.enc
theorem encs_snoc (xs : List Item) (x : Item) : encs (xs ++ [x]) = encs xs ++ x.enc := by simp [encs]
theorem enc_le (x : Item) (h : x.s.size ≤ 300) : x.enc.length ≤ 301 := by
  unfold Item.enc
  split
  · rw [Oct.bts_length]; omega
  · rw [Oct.bts_length]; omega
  · rw [Oct.bts_length]; omega
  · simp; omega
  · split
    · simp; omega
    · simp
theorem encs_le (xs : List Item) (h : ∀ x ∈ xs, x.s.size ≤ 300) : (encs xs).length ≤ 301 * xs.length := by
  induction xs with
  | nil => simp [encs]
  | cons x xs ih =>
    have h1 := enc_le x (h x (by simp))
    have h2 := ih fun y hy => h y (by simp [hy])
    simp only [encs, List.flatMap_cons, List.length_append, List.length_cons] at h2 ⊢
    omega
theorem cat_bytes (l m : List UInt8) : (⟨l.toArray⟩ : ByteArray) ++ ⟨m.toArray⟩ = ⟨(l ++ m).toArray⟩ := by
  apply ext_bytes
  rw [ByteArray.data_append, Array.toList_append]
theorem cat_bytes_s (l : List UInt8) (s : ByteArray) : (⟨l.toArray⟩ : ByteArray) ++ s = ⟨(l ++ s.data.toList).toArray⟩ := by
  apply ext_bytes
  rw [ByteArray.data_append, Array.toList_append]
theorem PenAt.alloc {w : World} {b : Nat} {l : List UInt8} (h : PenAt w b l) (o : Obj) : PenAt (w.alloc o) b l := by
  obtain ⟨v, hv, hown⟩ := h
  exact ⟨v, hv.alloc o, own_of_block hown fun k _ hk => Below.heap_alloc w o k hk⟩
theorem PenAt.below {w w' : World} {b : Nat} {l : List UInt8} (h : PenAt w b l) (hb : Below w.heap.size w w') : PenAt w' b l := by
  obtain ⟨v, hv, hown⟩ := h
  exact ⟨v, below_obj hb hv, own_of_block hown fun k _ hk => hb.block k hk⟩
def itemVals (x : Item) : Array Value := #[.int .u8 (x.what : Int), .int .u32 (x.n : Int), .string x.s]
theorem take_items (xs : List Item) (k : Nat) (h : k < xs.length) : xs.take (k + 1) = xs.take k ++ [xs[k]] := List.take_succ_eq_append_getElem h
set_option maxRecDepth 100000 in
set_option maxHeartbeats 2000000 in
theorem write_any (v : Value) (xs : List Item) (b : Nat) (w : World) (hlen : xs.length ≤ 60) (hsm : ∀ x ∈ xs, x.s.size ≤ 300) (hok : ∀ x ∈ xs, x.ok) (hI : ∀ wr, Below b w wr → ItemsAt wr v xs) (hp : PenAt w b []) :
    Calls Try.prog 41 #[.pointer (some ⟨b, 0, none⟩), v] w fun e w' =>
      e = .returned (.tuple #[.string ⟨(encs xs).toArray⟩, .bool true]) ∧ PenAt w' b (encs xs) ∧ Below b w w' := by
  have hI0 := hI w (Below.refl b w)
  obtain ⟨a, cap, g0, off0, rfl, hl, -, -⟩ := hI0
  unfold maxLen at hl
  go_enter Try.func41, Try.ntmps41
  go_wp2
  go_loopw [6, 12] (fun s i wr => ∃ k : Nat, k ≤ xs.length ∧ i = .int .i64 (k : Int) ∧ s = .string ⟨(encs (xs.take k)).toArray⟩ ∧ PenAt wr b (encs (xs.take k)) ∧ Below b w wr) (fun _ i _ => xs.length - (intOf i).toNat)
  case atStart => exact ⟨0, Nat.zero_le _, rfl, rfl, hp, Below.refl _ _⟩
  case round =>
    obtain ⟨k, hk, rfl, rfl, hP, hbel⟩ := hrel
    have hLL := encs_le (xs.take k) (fun x hx => hsm x (List.mem_of_mem_take hx))
    have htl : (xs.take k).length ≤ k := List.length_take_le _ _
    generalize hLe : encs (xs.take k) = L at *
    have HL := Lib.hid hLe
    clear hLe
    have hL : L.length ≤ 18060 := by omega
    clear hLL htl
    by_cases hlt : k < xs.length
    · obtain ⟨a', cap', g, off, hform, -, hne, hc⟩ := hI wr hbel
      obtain ⟨rfl, rfl⟩ : a = a' ∧ cap = cap' := by simpa using hform
      obtain ⟨rfl, hg⟩ := hne (by intro e; simp [e] at hlt)
      obtain ⟨c1, c2, c3⟩ := hc k hlt
      obtain ⟨hw0, hn0⟩ := hok xs[k] (List.getElem_mem _)
      have hs0 := hsm xs[k] (List.getElem_mem _)
      have hnext : encs (xs.take (k + 1)) = L ++ xs[k].enc := by rw [take_items xs k hlt, encs_snoc, HL.out]
      have HX := Lib.hid hnext
      clear hnext hform hc hne
      generalize hx : xs[k] = x at *
      have hblt := hP.lt
      have hX : ∀ w1, PenKeep b (wr.alloc (.cells (itemVals x) 45)) w1 → ObjAt w1 wr.heap.size (itemVals x) 45 := fun w1 h1 => h1.objs wr.heap.size _ _ _ (by omega) (by decide) (heap_alloc_new _ _)
      have hPx := hP.alloc (.cells (itemVals x) 45)
      have hbx : Below b w (wr.alloc (.cells (itemVals x) 45)) := hbel.alloc (by omega) _
      have hcases : x.what % 5 = 0 ∨ x.what % 5 = 1 ∨ x.what % 5 = 2 ∨ x.what % 5 = 3 ∨ x.what % 5 = 4 := by omega
      rcases hcases with hq | hq | hq | hq | hq
      · have henc : x.enc = Oct.bts (x.n % 256) 1 := by simp only [Item.enc, hq]
        have HE := Lib.hid henc
        have hqi : (x.what : Int) % 5 = 0 := by omega
        clear henc hq
        go_wp2_with fail
        refine (penByte_any b L _ (by omega) (by omega) (wr.alloc (.cells (itemVals x) 45)) hPx).mono ?_
        rintro e w1 ⟨rfl, hP1, hK1⟩
        have hO := hX w1 hK1
        have d1 : w1.cell? ⟨wr.heap.size, 1, none⟩ = some (.int .u32 (x.n : Int)) := hO.cell 1
        have hw1 := hP1.lt
        go_wp2_with fail
        refine (rbytes_int ((x.n : Int) % 256) (by omega) 1 (by omega) w1).mono ?_
        rintro e w2 ⟨rfl, hb2⟩
        have hbl : (Oct.bts (x.n % 256) 1).length ≤ 4 := by rw [Oct.bts_length]; omega
        have hfin : (⟨L.toArray⟩ : ByteArray) ++ ⟨(Oct.bts (x.n % 256) 1).toArray⟩ = ⟨(encs (xs.take (k + 1))).toArray⟩ := by
          rw [cat_bytes, HX.out, HE.out]
        have HF := Lib.hid hfin
        have hP2 : PenAt w2 b (encs (xs.take (k + 1))) := by
          have := hP1.below hb2
          rw [HX.out, HE.out]
          have e : Oct.bts (x.n % 256) 1 = [UInt8.ofNat ((x.n : Int) % 256).toNat] := by
            simp only [Oct.bts]
            congr 2
            omega
          rw [e]
          exact this
        have hb3 : Below b w w2 := hbx.trans (hK1.below.trans (hb2.mono (by omega)))
        clear hfin
        go_wp2
        go_roundw
        case rel => exact ⟨k + 1, hlt, by go_num, by rw [HF.out], hP2, hb3⟩
        case measure => simp [intOf]; omega
      · have henc : x.enc = Oct.bts (x.n % 65536) 2 := by simp only [Item.enc, hq]
        have HE := Lib.hid henc
        have hqi : (x.what : Int) % 5 = 1 := by omega
        clear henc hq
        go_wp2_with fail
        refine (penTwo_int b L _ (by first | omega | (rw [IntKind.wrap_u16]; omega)) (by omega) (wr.alloc (.cells (itemVals x) 45)) hPx).mono ?_
        rintro e w1 ⟨rfl, hP1, hK1⟩
        have hO := hX w1 hK1
        have d1 : w1.cell? ⟨wr.heap.size, 1, none⟩ = some (.int .u32 (x.n : Int)) := hO.cell 1
        have hw1 := hP1.lt
        go_wp2_with fail
        refine (rbytes_int ((x.n : Int) % 65536) (by omega) 2 (by omega) w1).mono ?_
        rintro e w2 ⟨rfl, hb2⟩
        have hbl : (Oct.bts (x.n % 65536) 2).length ≤ 4 := by rw [Oct.bts_length]; omega
        have hfin : (⟨L.toArray⟩ : ByteArray) ++ ⟨(Oct.bts (x.n % 65536) 2).toArray⟩ = ⟨(encs (xs.take (k + 1))).toArray⟩ := by
          rw [cat_bytes, HX.out, HE.out]
        have HF := Lib.hid hfin
        have hP2 : PenAt w2 b (encs (xs.take (k + 1))) := by
          have := hP1.below hb2
          rw [HX.out, HE.out]
          rw [IntKind.wrap_u16] at this
          have e : ((x.n : Int) % 65536).toNat = x.n % 65536 := by omega
          rw [e] at this
          exact this
        have hb3 : Below b w w2 := hbx.trans (hK1.below.trans (hb2.mono (by omega)))
        clear hfin
        go_wp2
        go_roundw
        case rel => exact ⟨k + 1, hlt, by go_num, by rw [HF.out], hP2, hb3⟩
        case measure => simp [intOf]; omega
      · have henc : x.enc = Oct.bts x.n 4 := by simp only [Item.enc, hq]
        have HE := Lib.hid henc
        have hqi : (x.what : Int) % 5 = 2 := by omega
        clear henc hq
        go_wp2_with fail
        refine (penFour_any b L x.n (by omega) (by omega) (wr.alloc (.cells (itemVals x) 45)) hPx).mono ?_
        rintro e w1 ⟨rfl, hP1, hK1⟩
        have hO := hX w1 hK1
        have d1 : w1.cell? ⟨wr.heap.size, 1, none⟩ = some (.int .u32 (x.n : Int)) := hO.cell 1
        have hw1 := hP1.lt
        go_wp2_with fail
        refine (rbytes_int (x.n : Int) (by omega) 4 (by omega) w1).mono ?_
        rintro e w2 ⟨rfl, hb2⟩
        have hbl : (Oct.bts x.n 4).length ≤ 4 := by rw [Oct.bts_length]; omega
        have hfin : (⟨L.toArray⟩ : ByteArray) ++ ⟨(Oct.bts x.n 4).toArray⟩ = ⟨(encs (xs.take (k + 1))).toArray⟩ := by
          rw [cat_bytes, HX.out, HE.out]
        have HF := Lib.hid hfin
        have hP2 : PenAt w2 b (encs (xs.take (k + 1))) := by
          have := hP1.below hb2
          rw [HX.out, HE.out]
          exact this
        have hb3 : Below b w w2 := hbx.trans (hK1.below.trans (hb2.mono (by omega)))
        clear hfin
        go_wp2
        go_roundw
        case rel => exact ⟨k + 1, hlt, by go_num, by rw [HF.out], hP2, hb3⟩
        case measure => simp [intOf]; omega
      · have henc : x.enc = x.s.data.toList := by simp only [Item.enc, hq]
        have HE := Lib.hid henc
        have hqi : (x.what : Int) % 5 = 3 := by omega
        clear henc hq
        go_wp2_with fail
        refine (penText_any b L x.s (by omega) (wr.alloc (.cells (itemVals x) 45)) hPx).mono ?_
        rintro e w1 ⟨rfl, hP1, hK1⟩
        have hO := hX w1 hK1
        have d2 : w1.cell? ⟨wr.heap.size, 2, none⟩ = some (.string x.s) := hO.cell 2
        have hfin : (⟨L.toArray⟩ : ByteArray) ++ x.s = ⟨(encs (xs.take (k + 1))).toArray⟩ := by
          rw [cat_bytes_s, HX.out, HE.out]
        have HF := Lib.hid hfin
        have hP2 : PenAt w1 b (encs (xs.take (k + 1))) := by
          rw [HX.out, HE.out]
          exact hP1
        have hb3 : Below b w w1 := hbx.trans hK1.below
        clear hfin
        go_wp2
        go_roundw
        case rel => exact ⟨k + 1, hlt, by go_num, by rw [HF.out], hP2, hb3⟩
        case measure => simp [intOf]; omega
      · have hqi : (x.what : Int) % 5 = 4 := by omega
        by_cases h255 : x.s.size ≤ 255
        · have henc : x.enc = UInt8.ofNat x.s.size :: x.s.data.toList := by simp only [Item.enc, hq, if_pos h255]
          have HE := Lib.hid henc
          have H5 : Hid (decide (x.s.size ≤ 255) = true) := Lib.hid (by simpa using h255)
          clear henc hq
          go_wp2_with fail
          refine (penSmall_any b L x.s (by omega) (wr.alloc (.cells (itemVals x) 45)) hPx).mono ?_
          rintro e w1 ⟨rfl, hP1, hK1⟩
          rw [H5.out]
          have hO := hX w1 hK1
          have d2 : w1.cell? ⟨wr.heap.size, 2, none⟩ = some (.string x.s) := hO.cell 2
          have hw1 := hP1.lt
          have h255i : (x.s.size : Int) ≤ 255 := by omega
          go_wp2
          have hwr : IntKind.u32.wrap (x.s.size : Int) = (x.s.size : Int) := IntWalk.u32_in _ (by omega)
          have hP1' : PenAt w1 b (L ++ UInt8.ofNat x.s.size :: x.s.data.toList) := by rw [if_pos h255] at hP1; exact hP1
          clear hP1
          have hbl : (Oct.bts x.s.size 1).length = 1 := Oct.bts_length _ _
          have hfin : (⟨L.toArray⟩ : ByteArray) ++ (⟨(Oct.bts x.s.size 1).toArray⟩ ++ x.s) = ⟨(encs (xs.take (k + 1))).toArray⟩ := by
            rw [cat_bytes_s, cat_bytes, HX.out, HE.out]
            have e : Oct.bts x.s.size 1 = [UInt8.ofNat x.s.size] := by
              simp only [Oct.bts]
              congr 2
              omega
            rw [e]
            rfl
          have HF := Lib.hid hfin
          clear hfin
          go_region_with (first | (go_at_call 66; ((refine (rbytes_one _ ?_ _).mono ?_); (first | omega | (rw [IntKind.wrap_u32]; omega)); rintro e w2 ⟨rfl, hb2⟩); have d2' := (hb2.cell (p := ⟨wr.heap.size, 2, none⟩) (by simpa using hO.lt)).trans d2))
          all_goals
            have hb2' : Below w1.heap.size w1 w2 := ⟨hb2.os, hb2.tape, hb2.output, hb2.size, hb2.block⟩
            have hP2 : PenAt w2 b (encs (xs.take (k + 1))) := by
              have := hP1'.below hb2'
              rw [HX.out, HE.out]
              exact this
            have hb3 : Below b w w2 := hbx.trans (hK1.below.trans (hb2'.mono (by omega)))
            clear hb2
            go_wp2
            go_roundw
            case rel => exact ⟨k + 1, hlt, by go_num, by rw [HF.out], hP2, hb3⟩
            case measure => simp [intOf]; omega
        · have henc : x.enc = [] := by simp only [Item.enc, hq, if_neg h255]
          have HE := Lib.hid henc
          have H5 : Hid (decide (x.s.size ≤ 255) = false) := Lib.hid (by simpa using h255)
          clear henc hq
          go_wp2_with fail
          refine (penSmall_any b L x.s (by omega) (wr.alloc (.cells (itemVals x) 45)) hPx).mono ?_
          rintro e w1 ⟨rfl, hP1, hK1⟩
          rw [H5.out]
          have hP2 : PenAt w1 b (encs (xs.take (k + 1))) := by
            rw [HX.out, HE.out, List.append_nil]
            rw [if_neg h255] at hP1
            exact hP1
          have HF : Hid (L = encs (xs.take (k + 1))) := by
            rw [HX.out, HE.out, List.append_nil]
            exact Lib.hid rfl
          have hb3 : Below b w w1 := hbx.trans hK1.below
          go_wp2
          go_roundw
          case rel => exact ⟨k + 1, hlt, by go_num, by rw [← HF.out], hP2, hb3⟩
          case measure => simp [intOf]; omega
    · have hkl : k = xs.length := by omega
      subst hkl
      have hall : xs.take xs.length = xs := List.take_length
      have HA := Lib.hid hall
      clear hall
      go_wp2
      go_ret2
      have e := HL.out
      rw [HA.out] at e
      subst e
      exact ⟨rfl, hP, hbel⟩
end Go.Proofs.Ytpkgpffodkfncaa
