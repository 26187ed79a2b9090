/- The walks through a pen. -/
import Derived.Test.YtpkgpffodkfncaaOctEye2
import Derived.Lib.AppendStr
import Derived.Laws.BytesArg
namespace Go.Proofs.Ytpkgpffodkfncaa
open Go.RowKit
def byteVals (l : List UInt8) : List Value := l.map fun c => Value.int .u8 (c.toNat : Int)
theorem byteVals_length (l : List UInt8) : (byteVals l).length = l.length := by simp [byteVals]
theorem byteVals_append (l m : List UInt8) : byteVals (l ++ m) = byteVals l ++ byteVals m := by simp [byteVals]
/-- A pen that has written l: its block, and behind it the row of its bytes. -/
def PenAt (w : World) (b : Nat) (l : List UInt8) : Prop :=
  ∃ v, ObjAt w b #[v] 87 ∧ w.ownsRow (b + 1) 5 1 v l.length (byteVals l)
theorem PenAt.lt {w : World} {b : Nat} {l : List UInt8} (h : PenAt w b l) : b < w.heap.size := by obtain ⟨v, hv, _⟩ := h; exact hv.lt
theorem slice_form {w : World} {base : Nat} {e : TypeId} {size : Nat} {v : Value} {n : Nat} {xs : List Value} (h : w.ownsRow base e size v n xs) : ∃ a c, v = .slice a n c := by
  obtain ⟨_, ⟨rfl, rfl⟩ | ⟨g, cap, cur, rfl, _⟩⟩ := h
  · exact ⟨none, 0, rfl⟩
  · exact ⟨_, cap, rfl⟩
theorem own_block {w : World} {base : Nat} {e : TypeId} {size : Nat} {v : Value} {n : Nat} {xs : List Value} (h : w.ownsRow base e size v n xs) : ∀ k, v.ownBlock = some k → base ≤ k := by
  obtain ⟨_, ⟨rfl, rfl⟩ | ⟨g, cap, cur, rfl, hb, _⟩⟩ := h
  · intro k hk; simp [Value.ownBlock] at hk
  · intro k hk; simp [Value.ownBlock] at hk; omega
theorem own_of_block {w w' : World} {base : Nat} {e : TypeId} {size : Nat} {v : Value} {n : Nat} {xs : List Value} (h : w.ownsRow base e size v n xs) (hh : ∀ k, base ≤ k → k < w.heap.size → w'.heap[k]? = w.heap[k]?) : w'.ownsRow base e size v n xs := by
  obtain ⟨hl, ⟨rfl, rfl⟩ | ⟨g, cap, cur, rfl, hb, hg, h1, h2, h3, h4⟩⟩ := h
  · exact ⟨hl, .inl ⟨rfl, rfl⟩⟩
  · exact ⟨hl, .inr ⟨g, cap, cur, rfl, hb, (hh g hb (Array.getElem?_eq_some_iff.1 hg).1).trans hg, h1, h2, h3, h4⟩⟩
/-- What a pen's work leaves: all below its block; and every block of another kind. -/
structure PenKeep (b : Nat) (w w' : World) : Prop where
  below : Below b w w'
  objs : ∀ k cs t fr, k ≠ b → t ≠ 5 → w.heap[k]? = some (.cells cs t fr) → w'.heap[k]? = some (.cells cs t fr)
theorem PenKeep.refl (b : Nat) (w : World) : PenKeep b w w := ⟨Below.refl b w, fun _ _ _ _ _ _ h => h⟩
theorem PenKeep.trans {b : Nat} {u v w : World} (h : PenKeep b u v) (k : PenKeep b v w) : PenKeep b u w :=
  ⟨h.below.trans k.below, fun i cs t fr hi ht hc => k.objs i cs t fr hi ht (h.objs i cs t fr hi ht hc)⟩
theorem PenKeep.alloc {b : Nat} {w u : World} (h : PenKeep b w u) (hb : b ≤ u.heap.size) (o : Obj) : PenKeep b w (u.alloc o) :=
  ⟨h.below.alloc hb _, fun i cs t fr hi ht hc => by
    have := h.objs i cs t fr hi ht hc
    exact (Below.heap_alloc u o i (Array.getElem?_eq_some_iff.1 this).1).trans this⟩
theorem PenKeep.grown {b : Nat} {w u u' : World} {v : Value} {n : Nat} {xs : List Value} (h : PenKeep b w u) (hb : b ≤ u.heap.size) (hown : u.ownsRow (b + 1) 5 1 v n xs) (hg : u.grownBy u' v.ownBlock) : PenKeep b w u' :=
  ⟨h.below.grown hg hb (fun k hk => by have := own_block hown k hk; omega), fun i cs t fr hi ht hc => by
    have hu := h.objs i cs t fr hi ht hc
    refine (hg.block i (Array.getElem?_eq_some_iff.1 hu).1 (fun e => ?_)).trans hu
    obtain ⟨_, ⟨rfl, rfl⟩ | ⟨g, cap, cur, rfl, _, hgr, _⟩⟩ := hown
    · simp [Value.ownBlock] at e
    · simp [Value.ownBlock] at e
      subst e
      rw [hgr] at hu
      simp at hu
      exact ht hu.2.1.symm⟩
theorem PenKeep.setCell {b : Nat} {w u : World} (h : PenKeep b w u) (j : Nat) (v : Value) : PenKeep b w (u.setCell ⟨b, j, none⟩ v) :=
  ⟨h.below.setCell (Nat.le_refl _) _, fun i cs t fr hi ht hc => (heap_setCell_other u _ i _ hi).trans (h.objs i cs t fr hi ht hc)⟩
theorem u8_row : (Try.prog.info? 5).map (fun i => (i.zero, i.size, i.bytes)) = some (some (.int .u8 0), 1, 1) := by kernel_rfl
theorem u8_info : ∃ i, Try.prog.info? 5 = some i ∧ i.zero = some (.int .u8 0) ∧ i.size = 1 ∧ i.bytes = 1 := by
  have := u8_row
  cases h : Try.prog.info? 5 with
  | none => simp [h] at this
  | some i => simp [h] at this; exact ⟨i, rfl, this.1, this.2.1, this.2.2⟩
set_option maxRecDepth 100000 in
theorem penByte_any (b : Nat) (l : List UInt8) (c : Int) (hc : 0 ≤ c ∧ c ≤ 255) (hl : l.length + 1 ≤ 140737488355328) (w : World) (h : PenAt w b l) :
    Calls Try.prog 65 #[.pointer (some ⟨b, 0, none⟩), .int .u8 c] w fun e w' =>
      e = .returned (.pointer (some ⟨b, 0, none⟩)) ∧ PenAt w' b (l ++ [UInt8.ofNat c.toNat]) ∧ PenKeep b w w' := by
  obtain ⟨i, hi, z1, z2, z3⟩ := u8_info
  have hlt := h.lt
  obtain ⟨v, hv, hown⟩ := h
  obtain ⟨sa, sc, hform⟩ := slice_form hown
  subst hform
  have c0 : w.cell? ⟨b, 0, none⟩ = some (.slice sa l.length sc) := hv.cell 0
  have f0 : w.frozen? ⟨b, 0, none⟩ = false := hv.free 0
  go_enter Try.func65, Try.ntmps65
  have hown1 : (w.alloc (.cells #[.int .u8 c] 5)).ownsRow (b + 1) 5 1 (.slice sa l.length sc) l.length (byteVals l) := own_of_block hown fun k _ hk => Below.heap_alloc w _ k hk
  go_wp2_with (first | (at_builtin; refine wpList_append_own _ rfl (.tmp 11) (.tmp 13) 33 rfl (b + 1) 5 i (.int .u8 0) 1 1 (by kernel_rfl) hi z1 z2 z3 rfl (by decide) (.slice sa l.length sc) l.length (byteVals l) rfl hown1 ⟨w.heap.size, 0, none⟩ 1 1 [.int .u8 c] rfl rfl ?c1 ?c2 ?c3 ?c4 ?c5 ?_))
  case c1 => intro j u hj; match j, hj with
    | 0, hj => simp at hj; subst hj; simp [World.cell?, World.alloc, Addr.add, -World.alloc_eq]
  case c2 => simp [Value.oneCell']
  case c3 => unfold maxLen; omega
  case c4 => omega
  case c5 => simp; omega
  intro v' w2 hown2 hgrow _
  have hb2 : w2.heap[b]? = w.heap[b]? := (hgrow.block b (by simp; omega) (fun e => by have := own_block hown b e.symm; omega)).trans (Below.heap_alloc w _ b hlt)
  have hv2 : ObjAt w2 b #[.slice sa l.length sc] 87 := hb2.trans hv
  have c2 : w2.cell? ⟨b, 0, none⟩ = some (.slice sa l.length sc) := hv2.cell 0
  have f2 : w2.frozen? ⟨b, 0, none⟩ = false := hv2.free 0
  have hbel : PenKeep b w w2 := ((PenKeep.refl b w).alloc (by omega) _).grown (by simp; omega) hown1 hgrow
  obtain ⟨va, vc, hform⟩ := slice_form hown2
  subst hform
  go_wp2
  go_ret
  refine ⟨rfl, ⟨_, hv2.set 0 _, ?_⟩, hbel.setCell 0 _⟩
  have hval : [Value.int .u8 c] = byteVals [UInt8.ofNat c.toNat] := by
    simp [byteVals]
    omega
  rw [hval, ← byteVals_append] at hown2
  rw [List.length_append]
  exact own_of_block hown2 fun k hk _ => heap_setCell_other w2 _ k _ (by simp; omega)
theorem lit1_string (w : World) (x : Int) :
    (convert 33 9 (.slice (some ⟨w.heap.size, 0, none⟩) 1 1)).run Try.prog (w.alloc (.cells #[.int .u8 x] 5)) = .ok (.string (strOfNums [x])) (w.alloc (.cells #[.int .u8 x] 5)) :=
  run_convert_bytes_arg _ _ 5 (by kernel_rfl) (by kernel_rfl) _ 0 1 1 [x] rfl (fun i hi => by
    match i, hi with
    | 0, _ => simp [World.cell?, World.alloc, -World.alloc_eq]) _ (by kernel_rfl)
theorem strCells_vals (s : ByteArray) : Lib.strCells s = byteVals s.data.toList := rfl
set_option maxRecDepth 100000 in
theorem penText_any (b : Nat) (l : List UInt8) (s : ByteArray) (hl : l.length + s.size ≤ 140737488355328) (w : World) (h : PenAt w b l) :
    Calls Try.prog 68 #[.pointer (some ⟨b, 0, none⟩), .string s] w fun e w' =>
      e = .returned (.pointer (some ⟨b, 0, none⟩)) ∧ PenAt w' b (l ++ s.data.toList) ∧ PenKeep b w w' := by
  obtain ⟨i, hi, z1, z2, z3⟩ := u8_info
  have hlt := h.lt
  obtain ⟨v, hv, hown⟩ := h
  obtain ⟨sa, sc, hform⟩ := slice_form hown
  subst hform
  have c0 : w.cell? ⟨b, 0, none⟩ = some (.slice sa l.length sc) := hv.cell 0
  have f0 : w.frozen? ⟨b, 0, none⟩ = false := hv.free 0
  go_enter Try.func68, Try.ntmps68
  go_wp2_with (first | (at_builtin; refine Lib.wpList_append_own_string _ rfl (.tmp 11) (.tmp 12) 33 9 rfl (b + 1) 5 i (by kernel_rfl) (by kernel_rfl) hi z1 z2 z3 (.slice sa l.length sc) l.length (byteVals l) rfl hown s rfl ?c3 ?c4 ?c5 ?_))
  case c3 => unfold maxLen; omega
  case c4 => omega
  case c5 => omega
  intro v' w2 hown2 hgrow _
  have hv2 : ObjAt w2 b #[.slice sa l.length sc] 87 := (hgrow.block b hlt (fun e => by have := own_block hown b e.symm; omega)).trans hv
  have c2 : w2.cell? ⟨b, 0, none⟩ = some (.slice sa l.length sc) := hv2.cell 0
  have f2 : w2.frozen? ⟨b, 0, none⟩ = false := hv2.free 0
  have hbel : PenKeep b w w2 := (PenKeep.refl b w).grown (by omega) hown hgrow
  obtain ⟨va, vc, hform⟩ := slice_form hown2
  subst hform
  go_wp2
  go_ret
  refine ⟨rfl, ⟨_, hv2.set 0 _, ?_⟩, hbel.setCell 0 _⟩
  rw [strCells_vals, ← byteVals_append] at hown2
  rw [List.length_append, show s.data.toList.length = s.size from by simp]
  exact own_of_block hown2 fun k hk _ => heap_setCell_other w2 _ k _ (by simp; omega)
theorem own_string {w : World} {base n : Nat} {v : Value} {l : List UInt8} (h : w.ownsRow base 5 1 v n (byteVals l)) :
    (convert 33 9 v).run Try.prog w = .ok (.string ⟨l.toArray⟩) w := by
  obtain ⟨hl, ⟨rfl, rfl⟩ | ⟨g, cap, cur, rfl, hb, hg, h1, h2, h3, h4⟩⟩ := h
  · rw [byteVals_length] at hl
    have : l = [] := List.length_eq_zero_iff.1 (by omega)
    subst this
    exact run_convert_bytes_nil w 33 5 (by kernel_rfl) (by kernel_rfl) 0 0 9 (by kernel_rfl)
  · rw [byteVals_length, Nat.mul_one] at hl
    rw [Nat.mul_one] at h4
    have := run_convert_bytes_arg (P := Try.prog) w 33 5 (by kernel_rfl) (by kernel_rfl) g 0 n cap (l.map fun c => (c.toNat : Int)) (by simpa using hl) (fun i hi => by
      have e : cur.toList[i]? = (byteVals l)[i]? := by rw [← h4, List.getElem?_take_of_lt hi]
      simp only [Nat.zero_add, World.cell?, hg]
      rw [Array.getElem?_toList] at e
      simp only [Option.isSome_none, Bool.false_eq_true, if_false, e, byteVals, List.getElem?_map, List.getD_eq_getElem?_getD]
      rw [List.getElem?_eq_getElem (by omega)]
      rfl) 9 (by kernel_rfl)
    rw [this]
    congr 2
    simp [strOfNums, Function.comp_def]
set_option maxRecDepth 100000 in
theorem penString_any (b : Nat) (l : List UInt8) (w : World) (h : PenAt w b l) :
    Calls Try.prog 42 #[.pointer (some ⟨b, 0, none⟩)] w fun e w' => e = .returned (.string ⟨l.toArray⟩) ∧ w = w' := by
  obtain ⟨v, hv, hown⟩ := h
  have hcv := own_string hown
  obtain ⟨sa, sc, hform⟩ := slice_form hown
  subst hform
  have c0 : w.cell? ⟨b, 0, none⟩ = some (.slice sa l.length sc) := hv.cell 0
  go_enter Try.func42, Try.ntmps42
  go_wp2
  go_ret
  exact ⟨rfl, rfl⟩
set_option maxRecDepth 100000 in
theorem penLen_any (b : Nat) (l : List UInt8) (w : World) (h : PenAt w b l) :
    Calls Try.prog 43 #[.pointer (some ⟨b, 0, none⟩)] w fun e w' => e = .returned (.int .i64 (l.length : Int)) ∧ w = w' := by
  obtain ⟨v, hv, hown⟩ := h
  obtain ⟨sa, sc, hform⟩ := slice_form hown
  subst hform
  have c0 : w.cell? ⟨b, 0, none⟩ = some (.slice sa l.length sc) := hv.cell 0
  go_enter Try.func43, Try.ntmps43
  go_wp2
  go_ret
  exact ⟨rfl, rfl⟩
set_option maxRecDepth 100000 in
theorem newPen_any (w : World) :
    Calls Try.prog 40 #[] w fun e w' => e = .returned (.pointer (some ⟨w.heap.size, 0, none⟩)) ∧ PenAt w' w.heap.size [] ∧ Below w.heap.size w w' := by
  go_enter Try.func40, Try.ntmps40
  go_wp2
  go_ret
  exact ⟨rfl, ⟨_, ObjAt.new _ _ _, rfl, .inl ⟨rfl, rfl⟩⟩, (Below.refl _ _).alloc (Nat.le_refl _) _⟩
set_option maxRecDepth 100000 in
theorem penTwo_any (b : Nat) (l : List UInt8) (n : Nat) (hn : n < 65536) (hl : l.length + 2 ≤ 140737488355328) (w : World) (h : PenAt w b l) :
    Calls Try.prog 63 #[.pointer (some ⟨b, 0, none⟩), .int .u16 (n : Int)] w fun e w' =>
      e = .returned (.pointer (some ⟨b, 0, none⟩)) ∧ PenAt w' b (l ++ Oct.bts n 2) ∧ PenKeep b w w' := by
  go_enter Try.func63, Try.ntmps63
  go_wp2_with fail
  refine (penByte_any b l _ (by omega) (by omega) w h).mono ?_
  rintro e w1 ⟨rfl, h1, hb1⟩
  go_wp2_with fail
  refine (penByte_any b _ _ (by omega) (by simp; omega) w1 h1).mono ?_
  rintro e w2 ⟨rfl, h2, hb2⟩
  go_wp2
  go_ret
  refine ⟨rfl, ?_, hb1.trans hb2⟩
  have e : l ++ Oct.bts n 2 = l ++ [UInt8.ofNat ((n : Int) / 256).toNat] ++ [UInt8.ofNat ((n : Int) % 256).toNat] := by
    simp [Oct.bts]
    constructor <;> (apply UInt8.toNat_inj.1; simp; try omega)
  rw [e]
  exact h2
theorem penTwo_int (b : Nat) (l : List UInt8) (a : Int) (ha : 0 ≤ a ∧ a ≤ 65535) (hl : l.length + 2 ≤ 140737488355328) (w : World) (h : PenAt w b l) :
    Calls Try.prog 63 #[.pointer (some ⟨b, 0, none⟩), .int .u16 a] w fun e w' =>
      e = .returned (.pointer (some ⟨b, 0, none⟩)) ∧ PenAt w' b (l ++ Oct.bts a.toNat 2) ∧ PenKeep b w w' := by
  obtain ⟨n, rfl⟩ := Int.eq_ofNat_of_zero_le ha.1
  exact penTwo_any b l n (by omega) hl w h
set_option maxRecDepth 100000 in
theorem penFour_any (b : Nat) (l : List UInt8) (n : Nat) (hn : n < 4294967296) (hl : l.length + 4 ≤ 140737488355328) (w : World) (h : PenAt w b l) :
    Calls Try.prog 67 #[.pointer (some ⟨b, 0, none⟩), .int .u32 (n : Int)] w fun e w' =>
      e = .returned (.pointer (some ⟨b, 0, none⟩)) ∧ PenAt w' b (l ++ Oct.bts n 4) ∧ PenKeep b w w' := by
  go_enter Try.func67, Try.ntmps67
  go_wp2_with fail
  refine (penTwo_int b l _ (by omega) (by omega) w h).mono ?_
  rintro e w1 ⟨rfl, h1, hb1⟩
  go_wp2_with fail
  refine (penTwo_int b _ _ ?_ (by simp [Oct.bts_length]; omega) w1 h1).mono ?_
  · rw [IntKind.wrap_u16]; omega
  rintro e w2 ⟨rfl, h2, hb2⟩
  go_wp2
  go_ret
  refine ⟨rfl, ?_, hb1.trans hb2⟩
  have e : l ++ Oct.bts n 4 = l ++ Oct.bts ((n : Int) / 65536).toNat 2 ++ Oct.bts (IntKind.u16.wrap (n : Int)).toNat 2 := by
    rw [IntKind.wrap_u16, show ((n : Int) / 65536).toNat = n / 65536 from by omega, show ((n : Int) % 65536).toNat = n % 65536 from by omega]
    simp only [Oct.bts, List.append_assoc, List.cons_append, List.nil_append]
    congr 2
    · congr 1; omega
    congr 1
    · congr 1; omega
    congr 1
    · congr 1; omega
    congr 1
    congr 1; omega
  rw [e]
  exact h2
set_option maxRecDepth 100000 in
theorem penSmall_any (b : Nat) (l : List UInt8) (s : ByteArray) (hl : l.length + s.size + 1 ≤ 140737488355328) (w : World) (h : PenAt w b l) :
    Calls Try.prog 62 #[.pointer (some ⟨b, 0, none⟩), .string s] w fun e w' =>
      e = .returned (.bool (decide (s.size ≤ 255))) ∧ PenAt w' b (if s.size ≤ 255 then l ++ (UInt8.ofNat s.size :: s.data.toList) else l) ∧ PenKeep b w w' := by
  by_cases hs : s.size ≤ 255
  · go_enter Try.func62, Try.ntmps62
    go_wp2_with fail
    refine (penByte_any b l _ (by omega) (by omega) w h).mono ?_
    rintro e w1 ⟨rfl, h1, hb1⟩
    go_wp2_with fail
    refine (penText_any b _ s (by simp; omega) w1 h1).mono ?_
    rintro e w2 ⟨rfl, h2, hb2⟩
    go_wp2
    go_ret
    refine ⟨rfl, ?_, hb1.trans hb2⟩
    simpa using h2
  · go_enter Try.func62, Try.ntmps62
    go_wp2
    go_ret
    exact ⟨rfl, ‹PenAt w b l›, PenKeep.refl _ _⟩
end Go.Proofs.Ytpkgpffodkfncaa
