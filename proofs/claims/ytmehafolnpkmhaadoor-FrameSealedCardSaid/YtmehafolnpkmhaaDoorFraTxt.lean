/- frame.Text. -/
import Derived.Test.YtmehafolnpkmhaaDoorFraRtx
import Derived.Test.YtmehafolnpkmhaaDoorFraRfr
import Derived.Test.YtmehafolnpkmhaaDoorFraFmt
import Derived.Deep.AppendLies
namespace Go.Proofs.YtmehafolnpkmhaaDoor
open Go.RowKit
theorem shapes_v (k : Int) (n0 : ByteArray) (tt : Bool) (hn : n0 = (shapeF k).1) (ht : tt = (shapeF k).2.1) (w : World) : Calls Tryd.prog 70 #[.int .i64 k] w fun e w' =>
    (∃ l0 m0 ok, e = .returned (.tuple #[.agg #[.string n0, .bool tt, .int .i64 l0, .int .i64 m0], .bool ok])) ∧ Below w.heap.size w w' := by
  refine (shapes_any k w).mono ?_
  rintro e w' ⟨rfl, hb⟩
  exact ⟨⟨_, _, _, by rw [hn, ht]⟩, hb⟩
theorem shape_to {k : Int} (h : ¬ k = 4) : (shapeF k).2.1 = true := by
  unfold shapeF
  rw [if_neg h]
  repeat' split
  all_goals rfl
theorem epText_d (c a i : Int) (hc : 0 ≤ c ∧ c < 65536) (ha : 0 ≤ a ∧ a < 256) (hi : 0 ≤ i ∧ i < 65536) (d : ByteArray) (hd : d = epT c a i) (w : World) (hL : LaidW w) :
    Calls Tryd.prog 72 #[.agg #[.int .u16 c, .int .u8 a, .int .u16 i]] w fun e w' => e = .returned (.string d) ∧ Below w.heap.size w w' := by
  rw [hd]
  exact epText_any c a i hc ha hi w hL
theorem fmt_int (n : Int) (h : 0 ≤ n ∧ n < 4294967296) (d : ByteArray) (hd : d = dgB n) (w : World) (hL : LaidW w) :
    Calls Tryd.prog 73 #[.int .u64 n, .int .i64 10] w fun e w' => e = .returned (.string d) ∧ Below w.heap.size w w' := by
  obtain ⟨m, rfl⟩ := Int.eq_ofNat_of_zero_le h.1
  rw [hd]
  unfold dgB
  rw [Int.toNat_natCast, ← Lib.itoa_nonneg]
  exact formatUint_any m (by omega) w hL
/-- Pieces with blanks between. -/
def jn (xs : List ByteArray) : ByteArray := ⟨(Lib.join (xs.map (·.data.toList)) (⟨#[32]⟩ : ByteArray).data.toList).toArray⟩
theorem jn_one (a : ByteArray) : jn [a] = a := by
  apply ext_bytes
  simp [jn, Lib.join_cons, Lib.joinTail]
theorem jn_cons (a b : ByteArray) (r : List ByteArray) : jn (a :: b :: r) = a ++ ⟨#[32]⟩ ++ jn (b :: r) := by
  apply ext_bytes
  simp only [jn, ByteArray.data_append, Array.toList_append, List.map_cons, Lib.join_cons, Lib.joinTail, List.flatten_cons, List.append_assoc]
theorem jn_len {xs : List ByteArray} {n : Nat} (h : (jn xs).size ≤ n) : (Lib.join (xs.map (·.data.toList)) (⟨#[32]⟩ : ByteArray).data.toList).length ≤ n := by
  unfold jn at h
  rw [str_size] at h
  exact h
theorem string_info : ∃ i, Tryd.prog.info? 9 = some i ∧ i.zero = some (.string (⟨#[]⟩ : ByteArray)) ∧ i.size = 1 ∧ i.bytes = 16 := by
  have h : (Tryd.prog.info? 9).map (fun i => (i.zero, i.size, i.bytes)) = some (some (.string (⟨#[]⟩ : ByteArray)), 1, 16) := by kernel_rfl
  cases hi : Tryd.prog.info? 9 with
  | none => rw [hi] at h; simp at h
  | some i =>
    rw [hi] at h
    simp only [Option.map_some, Option.some.injEq, Prod.mk.injEq] at h
    exact ⟨i, rfl, h.1, h.2.1, h.2.2⟩
/-- A row of strings of the call's own. -/
def StrRow (w : World) (base bk n cap : Nat) (xs : List ByteArray) : Prop := w.ownsRow base 9 1 (.slice (some ⟨bk, 0, none⟩) n cap) n (xs.map Value.string) ∧ n ≤ cap ∧ base ≤ bk ∧ bk < w.heap.size
theorem StrRow.alloc {w : World} {base bk n cap : Nat} {xs : List ByteArray} (h : StrRow w base bk n cap xs) (o : Obj) : StrRow (w.alloc o) base bk n cap xs := ⟨h.1.alloc o, h.2.1, h.2.2.1, by rw [World.size_alloc]; have := h.2.2.2; omega⟩
theorem StrRow.call {w w' : World} {base bk n cap : Nat} {xs : List ByteArray} (h : StrRow w base bk n cap xs) (hb : Below w.heap.size w w') : StrRow w' base bk n cap xs :=
  ⟨own_of_block h.1 (fun k _ h2 => hb.block k h2), h.2.1, h.2.2.1, Nat.lt_of_lt_of_le h.2.2.2 hb.size⟩
theorem StrRow.new (w : World) (xs : List ByteArray) (n : Nat) (hn : xs.length = n) (h0 : 0 < n) (hm : n ≤ 1000) : StrRow (w.alloc (.cells (xs.map Value.string).toArray 9)) w.heap.size w.heap.size n n xs := by
  refine ⟨⟨by simp [hn], .inr ⟨w.heap.size, n, (xs.map Value.string).toArray, rfl, Nat.le_refl _, ObjAt.new w _ _, Nat.le_refl _, by unfold maxLen; omega, by simp [hn], ?_⟩⟩, Nat.le_refl _, Nat.le_refl _, by simp⟩
  rw [List.take_of_length_le (by simp [hn])]
theorem StrRow.at_ {w : World} {base bk n cap : Nat} {xs : List ByteArray} (h : StrRow w base bk n cap xs) (hn : xs.length = n) : ∀ (j : Nat) x, xs[j]? = some x → w.cell? ⟨bk, 0 + j, none⟩ = some (.string x) := by
  intro j x hx
  have hj : j < xs.length := (List.getElem?_eq_some_iff.1 hx).1
  rw [Nat.zero_add, h.1.cellAt j (by omega), List.getElem?_map, hx]
  rfl
/-- Strings appended to a row of the call's own. -/
theorem wp_append_str {o : Oper} {a : Act} {w : World} {K : Act → World → Prop} {Q : Exit → Act → World → Prop} (s x : Operand)
    (ho : o.op = .call { callee := .builtin .append, args := #[s, x], argTypes := #[70, 70] }) (base bk n cap m k c bx : Nat) (xs ys : List ByteArray) (hs : a.eval s = .slice (some ⟨bk, 0, none⟩) n cap) (hrow : StrRow w base bk n cap xs)
    (hx : a.eval x = .slice (some ⟨bx, 0, none⟩) m c) (hy : ObjAt w bx (ys.map Value.string).toArray 9) (hl : ys.length = m) (hk : n + m = k) (hm : 0 < m) (hn : k ≤ 1000) (hbase : base ≤ w.heap.size)
    (h : ∀ g cap' w', StrRow w' base g k cap' (xs ++ ys) → w.grownBy w' (some bk) → K (a.put o.dst (.slice (some ⟨g, 0, none⟩) k cap')) w') : o.wp Tryd.prog a w K Q := by
  obtain ⟨i, i1, i2, i3, i4⟩ := string_info
  subst hk
  refine wp_append_lies (P := Tryd.prog) w s x 70 ho base 9 i (.string ⟨#[]⟩) 1 16 Tryd.underlying70 i1 i2 i3 i4 rfl (by decide) _ n (xs.map Value.string) hs hrow.1 ⟨bx, 0, none⟩ m c (ys.map Value.string) hx (by simp [hl]) (fun j u hu => ?_) (fun u hu => ?_) hm (by unfold maxLen; omega) (by omega) hbase _ rfl (fun g cap' w' h1 h2 h3 h4 => ?_)
  · have := hy.cell j
    rw [List.getElem?_toArray, hu] at this
    rw [show (⟨bx, 0, none⟩ : Addr).add j = ⟨bx, j, none⟩ by unfold Addr.add; split <;> simp_all]
    exact this
  · obtain ⟨z, -, rfl⟩ := List.mem_map.1 hu
    rfl
  · refine h g cap' w' ⟨by rw [List.map_append]; exact h1, ?_, ?_, h4⟩ h2
    · rcases h1.2 with ⟨he, _⟩ | ⟨g', c', cur, he, _, _, hc, _⟩
      · simp at he
      · simp at he
        omega
    · rcases h3 with h3 | h3
      · simp [Value.ownBlock] at h3
        rw [← h3]
        exact hrow.2.2.1
      · omega
theorem wpList_append_str {ops : Array Oper} {rest : List Oper} {o : Oper} {a : Act} {w : World} {Q : Exit → Act → World → Prop} (hgd : o.guard = none) (s x : Operand)
    (ho : o.op = .call { callee := .builtin .append, args := #[s, x], argTypes := #[70, 70] }) (base bk n cap m k c bx : Nat) (xs ys : List ByteArray) (hs : a.eval s = .slice (some ⟨bk, 0, none⟩) n cap) (hrow : StrRow w base bk n cap xs)
    (hx : a.eval x = .slice (some ⟨bx, 0, none⟩) m c) (hy : ObjAt w bx (ys.map Value.string).toArray 9) (hl : ys.length = m) (hk : n + m = k) (hm : 0 < m) (hn : k ≤ 1000) (hbase : base ≤ w.heap.size)
    (h : ∀ g cap' w', StrRow w' base g k cap' (xs ++ ys) → w.grownBy w' (some bk) → wpList Tryd.prog ops Q rest (a.put o.dst (.slice (some ⟨g, 0, none⟩) k cap')) w') : wpList Tryd.prog ops Q (o :: rest) a w :=
  wpList_plain hgd fun _ hK => wp_append_str s x ho base bk n cap m k c bx xs ys hs hrow hx hy hl hk hm hn hbase fun g cap' w' h1 h2 => hK _ _ (h g cap' w' h1 h2)
theorem step_append_str {ops : Array Oper} {o : Oper} {a : Act} {w : World} {K : Act → World → Prop} {Q : Exit → Act → World → Prop} {E : Prop} (hgd : o.guard = none) (s x : Operand)
    (ho : o.op = .call { callee := .builtin .append, args := #[s, x], argTypes := #[70, 70] }) (base bk n cap m k c bx : Nat) (xs ys : List ByteArray) (hs : a.eval s = .slice (some ⟨bk, 0, none⟩) n cap) (hrow : StrRow w base bk n cap xs)
    (hx : a.eval x = .slice (some ⟨bx, 0, none⟩) m c) (hy : ObjAt w bx (ys.map Value.string).toArray 9) (hl : ys.length = m) (hk : n + m = k) (hm : 0 < m) (hn : k ≤ 1000) (hbase : base ≤ w.heap.size)
    (h : ∀ g cap' w', StrRow w' base g k cap' (xs ++ ys) → w.grownBy w' (some bk) → K (a.put o.dst (.slice (some ⟨g, 0, none⟩) k cap')) w') :
    if Region.wanted o (yielded ops a.tmps) = true then Oper.wp Tryd.prog o a w K Q else E := by
  have hw : Region.wanted o (yielded ops a.tmps) = true := by simp [Region.wanted, hgd]
  rw [if_pos hw]
  exact wp_append_str s x ho base bk n cap m k c bx xs ys hs hrow hx hy hl hk hm hn hbase h
theorem jn_append : ∀ (xs : List ByteArray) (y : ByteArray) (ys : List ByteArray), xs ≠ [] → jn (xs ++ y :: ys) = jn xs ++ ⟨#[32]⟩ ++ jn (y :: ys)
  | [], _, _, h => absurd rfl h
  | [a], y, ys, _ => by rw [jn_one]; exact jn_cons a y ys
  | a :: b :: r, y, ys, _ => by
    have ih := jn_append (b :: r) y ys (by simp)
    show jn (a :: b :: (r ++ y :: ys)) = _
    rw [jn_cons, jn_cons, show b :: (r ++ y :: ys) = (b :: r) ++ y :: ys from rfl, ih]
    simp only [ByteArray.append_assoc]
theorem lit_gt : (⟨#[32, 62, 32]⟩ : ByteArray) = ⟨#[32]⟩ ++ ⟨#[62]⟩ ++ ⟨#[32]⟩ := by decide
theorem lit_high : (⟨#[32, 104, 105, 103, 104, 32]⟩ : ByteArray) = ⟨#[32]⟩ ++ (⟨#[104, 105, 103, 104]⟩ : ByteArray) ++ ⟨#[32]⟩ := by decide
theorem lit_in : (⟨#[32, 105, 110]⟩ : ByteArray) = ⟨#[32]⟩ ++ (⟨#[105, 110]⟩ : ByteArray) := by decide
theorem lit_out : (⟨#[32, 111, 117, 116]⟩ : ByteArray) = ⟨#[32]⟩ ++ (⟨#[111, 117, 116]⟩ : ByteArray) := by decide
theorem lit_block : (⟨#[32, 98, 108, 111, 99, 107, 32]⟩ : ByteArray) = ⟨#[32]⟩ ++ (⟨#[98, 108, 111, 99, 107]⟩ : ByteArray) ++ ⟨#[32]⟩ := by decide
theorem lit_of : (⟨#[32, 111, 102, 32]⟩ : ByteArray) = ⟨#[32]⟩ ++ (⟨#[111, 102]⟩ : ByteArray) ++ ⟨#[32]⟩ := by decide
theorem obj_grown {w w' : World} {g : Nat} {C : Array Value} {t : TypeId} {bk : Nat} (h : ObjAt w g C t) (hg : w.grownBy w' (some bk)) (hne : g < bk) : ObjAt w' g C t :=
  (hg.block g h.lt (by simp; omega)).trans h
theorem below_grown {B : Nat} {w u u' : World} {bk : Nat} (h : Below B w u) (hg : u.grownBy u' (some bk)) (hne : B ≤ bk) (hB : B ≤ u.heap.size) : Below B w u' :=
  ⟨hg.os.trans h.os, hg.tape.trans h.tape, hg.output.trans h.output, Nat.le_trans h.size hg.size, fun k hk => (hg.block k (by omega) (by simp; omega)).trans (h.block k hk)⟩
set_option maxRecDepth 100000 in
set_option maxHeartbeats 8000000 in
theorem text_any (C : Array Value) (f : Fr) (h : C = f.cells) (hok : f.ok) (w : World) (hL : LaidW w) :
    Calls Tryd.prog 44 #[.agg C] w fun e w' => e = .returned (.string (textF f)) ∧ Below w.heap.size w w' := by
  have hC := Fr.size h
  have HF := Lib.hid h
  have HO0 := Lib.hid (ObjAt.new w C 49)
  have HX0 := Lib.hid ((Below.refl w.heap.size w).alloc (Nat.le_refl _) (.cells C 49))
  have HL0 := Lib.hid (laidW_below hL HX0.out (Nat.le_refl _))
  have hk8 := hok.k
  have ok_s := hok.s
  have ok_d := hok.d
  have ok_ec := hok.ec
  have ok_ea := hok.ea
  have ok_ei := hok.ei
  have ok_h := hok.h
  have ok_hc := hok.hc
  have ok_ha := hok.ha
  have ok_hi := hok.hi
  have ok_b := hok.b
  have ok_vi := hok.vi
  have ok_vs := hok.vs
  have ok_p := hok.p
  have ok_q := hok.q
  clear h hok hL
  have w_s : IntKind.i64.wrap f.s = f.s := IntWalk.i64_in _ (by omega)
  have w_d : IntKind.i64.wrap f.d = f.d := IntWalk.i64_in _ (by omega)
  have w_h : IntKind.i64.wrap f.h = f.h := IntWalk.i64_in _ (by omega)
  have w_b : IntKind.i64.wrap f.b = f.b := IntWalk.i64_in _ (by omega)
  have w_vi : IntKind.i64.wrap f.vi = f.vi := IntWalk.i64_in _ (by omega)
  have w_vs : IntKind.i64.wrap f.vs = f.vs := IntWalk.i64_in _ (by omega)
  have w_p : IntKind.i64.wrap f.p = f.p := IntWalk.i64_in _ (by omega)
  have w_q : IntKind.i64.wrap f.q = f.q := IntWalk.i64_in _ (by omega)
  have w_p1 : IntKind.i64.wrap (f.p + 1) = f.p + 1 := IntWalk.i64_in _ (by omega)
  obtain ⟨n0, h_n0⟩ : ∃ d, d = (shapeF f.k).1 := ⟨_, rfl⟩
  have z_n0 : n0.size ≤ 6 := by rw [h_n0]; exact name_size _
  have H_n0 := Lib.hid h_n0
  clear h_n0
  obtain ⟨d1, h_d1⟩ : ∃ d, d = dgB f.s := ⟨_, rfl⟩
  have z_d1 : d1.size ≤ 10 := by rw [h_d1]; exact dgB_size (by omega)
  have H_d1 := Lib.hid h_d1
  clear h_d1
  obtain ⟨d2, h_d2⟩ : ∃ d, d = dgB f.d := ⟨_, rfl⟩
  have z_d2 : d2.size ≤ 10 := by rw [h_d2]; exact dgB_size (by omega)
  have H_d2 := Lib.hid h_d2
  clear h_d2
  obtain ⟨d8, h_d8⟩ : ∃ d, d = dgB f.h := ⟨_, rfl⟩
  have z_d8 : d8.size ≤ 10 := by rw [h_d8]; exact dgB_size (by omega)
  have H_d8 := Lib.hid h_d8
  clear h_d8
  obtain ⟨e5, h_e5⟩ : ∃ d, d = epT f.ec f.ea f.ei := ⟨_, rfl⟩
  have z_e5 : e5.size ≤ 32 := by rw [h_e5]; exact epT_size (by omega) (by omega) (by omega)
  have H_e5 := Lib.hid h_e5
  clear h_e5
  go_enter Tryd.func44, Tryd.ntmps44
  rcases (by omega : f.k = 3 ∨ f.k = 4 ∨ (¬ f.k = 3 ∧ ¬ f.k = 4)) with hk | hk | hk
  · have H_k := Lib.hid hk
    have HSH := Lib.hid (shapes_v 3 n0 true (by rw [H_n0.out, hk]) (by rfl) (w.alloc (.cells C 49)))
    have x0 : (w.alloc (.cells C 49)).cell? ⟨w.heap.size, 0, none⟩ = some (.int .i64 3) := by rw [Fr.m0 HF.out HO0.out, hk]
    go_wp2_with fail
    refine HSH.out.mono ?_
    rintro e w1 ⟨⟨l0, m0, ok, rfl⟩, hb1⟩
    clear x0 HSH
    have HX1 := Lib.hid (HX0.out.trans (hb1.mono (Nat.le_of_lt HO0.out.lt)))
    have HL1 := Lib.hid (laidW_below HL0.out hb1 (Nat.le_refl _))
    have HO1 := Lib.hid (obj_call HO0.out hb1)
    clear hb1 HX0 HL0 HO0
    generalize hgg : w.heap.size = g at *
    have HGG := Lib.hid hgg
    clear hgg
    have hb1s := (Below.refl w1.heap.size w1).alloc (Nat.le_refl _) (.cells (#[.string n0, .bool true, .int .i64 l0, .int .i64 m0] : Array Value) 82)
    have HXs := Lib.hid (HX1.out.trans (hb1s.mono (Nat.le_of_lt HO1.out.lt)))
    have HLs := Lib.hid (laidW_below HL1.out hb1s (Nat.le_refl _))
    have HOs := Lib.hid (obj_call HO1.out hb1s)
    have HSs := Lib.hid (ObjAt.new w1 (#[.string n0, .bool true, .int .i64 l0, .int .i64 m0] : Array Value) 82)
    have hsb := HO1.out.lt
    clear hb1s
    have y2 := Fr.m2 HF.out HOs.out
    go_wp2_with fail
    generalize w1.alloc (.cells (#[.string n0, .bool true, .int .i64 l0, .int .i64 m0] : Array Value) 82) = ws at *
    generalize w1.heap.size = sb at *
    clear y2 HX1 HL1 HO1
    refine (itoa_int f.d (by omega) d2 H_d2.out _ HLs.out).mono ?_
    rintro e w2 ⟨rfl, hb2⟩
    have HX2 := Lib.hid (HXs.out.trans (hb2.mono (Nat.le_of_lt HOs.out.lt)))
    have HL2 := Lib.hid (laidW_below HLs.out hb2 (Nat.le_refl _))
    have HO2 := Lib.hid (obj_call HOs.out hb2)
    have HS2 := Lib.hid (obj_call HSs.out hb2)
    clear hb2
    go_wp2_with fail
    have r0 : ¬ (9223372036854775807 < e5.size + 1) := by omega
    have r1 : ¬ (9223372036854775807 < e5.size + 1 + d8.size) := by omega
    have HOb := Lib.hid (show ObjAt w2.drew g C 49 from HO2.out)
    have HXb := Lib.hid (show Below g w w2.drew from ⟨HX2.out.os, HX2.out.tape, HX2.out.output, HX2.out.size, HX2.out.block⟩)
    have HLb := Lib.hid (show LaidW w2.drew from laidW_heap HL2.out rfl)
    have HSb := Lib.hid (show ObjAt w2.drew sb _ 82 from HS2.out)
    go_region_held3 (fun w' => w'.cell? ⟨g, 1, none⟩ = some (.int .u8 f.s) ∧ w'.cell? ⟨g, 5, none⟩ = some (.int .u16 f.ec) ∧ w'.cell? ⟨g, 6, none⟩ = some (.int .u8 f.ea) ∧ w'.cell? ⟨g, 7, none⟩ = some (.int .u16 f.ei) ∧ w'.cell? ⟨g, 8, none⟩ = some (.int .u16 f.h) ∧ w'.cell? ⟨sb, 0, none⟩ = some (.string n0))
      (first | exact ⟨Fr.m1 HF.out HOb.out, Fr.m5 HF.out HOb.out, Fr.m6 HF.out HOb.out, Fr.m7 HF.out HOb.out, Fr.m8 HF.out HOb.out, HSb.out.cell 0⟩ | exact ⟨Fr.m1 HF.out HOm1.out, Fr.m5 HF.out HOm1.out, Fr.m6 HF.out HOm1.out, Fr.m7 HF.out HOm1.out, Fr.m8 HF.out HOm1.out, HSm1.out.cell 0⟩ | exact ⟨Fr.m1 HF.out HOm2.out, Fr.m5 HF.out HOm2.out, Fr.m6 HF.out HOm2.out, Fr.m7 HF.out HOm2.out, Fr.m8 HF.out HOm2.out, HSm2.out.cell 0⟩ | exact ⟨Fr.m1 HF.out HOm3.out, Fr.m5 HF.out HOm3.out, Fr.m6 HF.out HOm3.out, Fr.m7 HF.out HOm3.out, Fr.m8 HF.out HOm3.out, HSm3.out.cell 0⟩ | exact ⟨Fr.m1 HF.out (HOm3.out.alloc _), Fr.m5 HF.out (HOm3.out.alloc _), Fr.m6 HF.out (HOm3.out.alloc _), Fr.m7 HF.out (HOm3.out.alloc _), Fr.m8 HF.out (HOm3.out.alloc _), (HSm3.out.alloc _).cell 0⟩)
      (first
        | (go_at_call 59; (with_reducible refine (itoa_int f.s (by omega) d1 H_d1.out _ HLb.out).mono ?_); rintro e wm1 ⟨rfl, hbm1⟩; have HXm1 := Lib.hid (HXb.out.trans (hbm1.mono (Nat.le_of_lt HOb.out.lt))); have HLm1 := Lib.hid (laidW_below HLb.out hbm1 (Nat.le_refl _)); have HOm1 := Lib.hid (obj_call HOb.out hbm1); have HSm1 := Lib.hid (obj_call HSb.out hbm1))
        | (go_at_call 72; (with_reducible refine (epText_d f.ec f.ea f.ei ok_ec ok_ea ok_ei e5 H_e5.out _ HLm1.out).mono ?_); rintro e wm2 ⟨rfl, hbm2⟩; have HXm2 := Lib.hid (HXm1.out.trans (hbm2.mono (Nat.le_of_lt HOm1.out.lt))); have HLm2 := Lib.hid (laidW_below HLm1.out hbm2 (Nat.le_refl _)); have HOm2 := Lib.hid (obj_call HOm1.out hbm2); have HSm2 := Lib.hid (obj_call HSm1.out hbm2))
        | (go_at_call 59; (with_reducible refine (itoa_int f.h (by omega) d8 H_d8.out _ HLm2.out).mono ?_); rintro e wm3 ⟨rfl, hbm3⟩; have HXm3 := Lib.hid (HXm2.out.trans (hbm3.mono (Nat.le_of_lt HOm2.out.lt))); have HLm3 := Lib.hid (laidW_below HLm2.out hbm3 (Nat.le_refl _)); have HOm3 := Lib.hid (obj_call HOm2.out hbm3); have HSm3 := Lib.hid (obj_call HSm2.out hbm3)))
    clear r0 r1
    obtain ⟨e6, h_e6⟩ : ∃ d, d = e5 ++ (⟨#[47]⟩ : ByteArray) ++ d8 := ⟨_, rfl⟩
    rw [← h_e6]
    have l1 : (⟨#[32]⟩ : ByteArray).size = 1 := rfl
    have l2 : (⟨#[62]⟩ : ByteArray).size = 1 := rfl
    have l3 : (⟨#[47]⟩ : ByteArray).size = 1 := rfl
    have z_e6 : e6.size ≤ 43 := by
      rw [h_e6]
      simp only [ByteArray.size_append, l3]
      omega
    have z_j : (jn [n0, d1, (⟨#[62]⟩ : ByteArray), d2, e6]).size ≤ 100 := by
      simp only [jn_cons, jn_one, ByteArray.size_append, l1, l2]
      omega
    have HT5 : jn [n0, d1, (⟨#[62]⟩ : ByteArray), d2, e6] = headT f := by
      simp only [jn_cons, jn_one]
      rw [h_e6]
      unfold headT
      rw [if_neg (by omega), ← H_n0.out, ← H_d1.out, ← H_d2.out, ← H_e5.out, ← H_d8.out, lit_gt]
      simp only [ByteArray.append_assoc]
    have H_T5 := Lib.hid HT5
    have H_zj := Lib.hid z_j
    clear h_e6 HT5 l1 l2 l3 z_j
    have HR5 := Lib.hid (show StrRow (wm3.alloc (.cells #[.string n0, .string d1, .string (⟨#[62]⟩ : ByteArray), .string d2, .string e6] 9)) wm3.heap.size wm3.heap.size 5 5 [n0, d1, (⟨#[62]⟩ : ByteArray), d2, e6] from StrRow.new wm3 [n0, d1, (⟨#[62]⟩ : ByteArray), d2, e6] 5 rfl (by decide) (by decide))
    have hbr := (Below.refl wm3.heap.size wm3).alloc (Nat.le_refl _) (.cells #[.string n0, .string d1, .string (⟨#[62]⟩ : ByteArray), .string d2, .string e6] 9)
    have HXr := Lib.hid (HXm3.out.trans (hbr.mono (Nat.le_of_lt HOm3.out.lt)))
    have HLr := Lib.hid (laidW_below HLm3.out hbr (Nat.le_refl _))
    have HOr := Lib.hid (obj_call HOm3.out hbr)
    have hgr := HOm3.out.lt
    clear hbr
    generalize wm3.alloc (.cells #[.string n0, .string d1, .string (⟨#[62]⟩ : ByteArray), .string d2, .string e6] 9) = wr at *
    generalize wm3.heap.size = rb at *
    have x0 : wr.cell? ⟨g, 0, none⟩ = some (.int .i64 3) := by rw [Fr.m0 HF.out HOr.out, hk]
    obtain ⟨e9, h_e9⟩ : ∃ d, d = epT f.hc f.ha f.hi := ⟨_, rfl⟩
    have z_e9 : e9.size ≤ 32 := by rw [h_e9]; exact epT_size (by omega) (by omega) (by omega)
    have H_e9 := Lib.hid h_e9
    clear h_e9
    have x9 := Fr.m9 HF.out HOr.out
    have x10 := Fr.m10 HF.out HOr.out
    have x11 := Fr.m11 HF.out HOr.out
    go_wp2_with fail
    refine (epText_d f.hc f.ha f.hi ok_hc ok_ha ok_hi e9 H_e9.out _ HLr.out).mono ?_
    rintro e wn ⟨rfl, hbn⟩
    have HXn := Lib.hid (HXr.out.trans (hbn.mono (Nat.le_of_lt HOr.out.lt)))
    have HLn := Lib.hid (laidW_below HLr.out hbn (Nat.le_refl _))
    have HOn := Lib.hid (obj_call HOr.out hbn)
    have HRn := Lib.hid (HR5.out.call hbn)
    clear hbn
    clear x0 x9 x10 x11
    have hgn := HOn.out.lt
    obtain ⟨wb, h_wb⟩ : ∃ b, b = f.w := ⟨_, rfl⟩
    have H_wb := Lib.hid h_wb
    clear h_wb
    go_wp2_with (at_builtin; refine wpList_append_str rfl (.tmp 41) (.tmp 45) (by rfl) rb rb 5 5 2 7 2 wn.heap.size [n0, d1, (⟨#[62]⟩ : ByteArray), d2, e6] [(⟨#[104, 105, 103, 104]⟩ : ByteArray), e9] (by rfl) (HRn.out.alloc _) (by rfl) (ObjAt.new _ _ _) rfl rfl (by decide) (by decide) (Nat.le_of_lt (HRn.out.alloc _).2.2.2) ?_; intro g6 cap6 w6 row6 gr6; have HO6 := Lib.hid (obj_grown (HOn.out.alloc _) gr6 hgr); have HX6 := Lib.hid (below_grown (HXn.out.alloc (Nat.le_of_lt hgn) _) gr6 (Nat.le_of_lt hgr) (Nat.le_of_lt (HOn.out.alloc _).lt)); have HR6 := Lib.hid row6; clear row6 gr6; refine unhalt ?_)
    have x12 : w6.cell? ⟨g, 12, none⟩ = some (.bool wb) := by rw [Fr.m12 HF.out HO6.out, H_wb.out]
    have hg6 := HO6.out.lt
    cases wb
    · refine halt ?_
      go_wp2_with (at_builtin; refine wpList_append_str rfl (.tmp 52) (.tmp 53) (by rfl) rb g6 7 cap6 1 8 1 w6.heap.size ([n0, d1, (⟨#[62]⟩ : ByteArray), d2, e6] ++ [(⟨#[104, 105, 103, 104]⟩ : ByteArray), e9]) [(⟨#[111, 117, 116]⟩ : ByteArray)] (by rfl) (HR6.out.alloc _) (by rfl) (ObjAt.new _ _ _) rfl rfl (by decide) (by decide) (Nat.le_trans HR6.out.2.2.1 (Nat.le_of_lt (HR6.out.alloc _).2.2.2)) ?_; intro g8 cap8 w8 row8 gr8; have HX8 := Lib.hid (below_grown (HX6.out.alloc (Nat.le_of_lt hg6) _) gr8 (Nat.le_trans (Nat.le_of_lt hgr) HR6.out.2.2.1) (Nat.le_of_lt (HO6.out.alloc _).lt)); have hg8 := (obj_grown (HO6.out.alloc (.cells #[.string (⟨#[111, 117, 116]⟩ : ByteArray)] 9)) gr8 (Nat.lt_of_lt_of_le hgr HR6.out.2.2.1)).lt; have HR8 := Lib.hid row8; clear row8 gr8)
      have HT8 : jn (([n0, d1, (⟨#[62]⟩ : ByteArray), d2, e6] ++ [(⟨#[104, 105, 103, 104]⟩ : ByteArray), e9]) ++ [(⟨#[111, 117, 116]⟩ : ByteArray)]) = headT f ++ (⟨#[32, 104, 105, 103, 104, 32]⟩ : ByteArray) ++ e9 ++ (⟨#[32, 111, 117, 116]⟩ : ByteArray) := by
        rw [jn_append _ _ _ (by simp), jn_append _ _ _ (by simp), H_T5.out, jn_cons, jn_one, jn_one, lit_high, lit_out]
        simp only [ByteArray.append_assoc]
      have z8 : (jn (([n0, d1, (⟨#[62]⟩ : ByteArray), d2, e6] ++ [(⟨#[104, 105, 103, 104]⟩ : ByteArray), e9]) ++ [(⟨#[111, 117, 116]⟩ : ByteArray)])).size ≤ 1000 := by
        have z5 := H_zj.out
        rw [H_T5.out] at z5
        have k1 : (⟨#[32, 104, 105, 103, 104, 32]⟩ : ByteArray).size = 6 := rfl
        have k2 : (⟨#[32, 111, 117, 116]⟩ : ByteArray).size = 4 := rfl
        rw [HT8]
        simp only [ByteArray.size_append, k1, k2]
        omega
      refine (Tryd.strings_Join g8 0 cap8 ((([n0, d1, (⟨#[62]⟩ : ByteArray), d2, e6] ++ [(⟨#[104, 105, 103, 104]⟩ : ByteArray), e9]) ++ [(⟨#[111, 117, 116]⟩ : ByteArray)])) ⟨#[32]⟩ w8 (HR8.out.at_ (by rfl)) HR8.out.2.2.2 (by show 8 ≤ _; decide) (by exact HR8.out.2.1) (Nat.le_trans (jn_len (n := 1000) (by exact z8)) (by decide))).mono ?_
      rintro e wj ⟨rfl, hbj⟩
      have HXj := Lib.hid (HX8.out.trans (hbj.mono (Nat.le_of_lt hg8)))
      clear hbj
      rw [show (⟨(Lib.join ((([n0, d1, (⟨#[62]⟩ : ByteArray), d2, e6] ++ [(⟨#[104, 105, 103, 104]⟩ : ByteArray), e9]) ++ [(⟨#[111, 117, 116]⟩ : ByteArray)]).map (·.data.toList)) (⟨#[32]⟩ : ByteArray).data.toList).toArray⟩ : ByteArray) = _ from HT8]
      obtain ⟨tx, htx⟩ : ∃ d, d = headT f ++ (⟨#[32, 104, 105, 103, 104, 32]⟩ : ByteArray) ++ e9 ++ (⟨#[32, 111, 117, 116]⟩ : ByteArray) := ⟨_, rfl⟩
      rw [← htx]
      have H_tx := Lib.hid htx
      clear htx HT8 z8
      go_wp2
      go_ret
      refine ⟨?_, by rw [HGG.out]; exact HXj.out⟩
      unfold textF
      rw [if_pos H_k.out, ← H_e9.out, ← H_wb.out]
      exact congrArg (fun d => Ending.returned (Value.string d)) H_tx.out
    · refine halt ?_
      go_wp2_with (at_builtin; refine wpList_append_str rfl (.tmp 49) (.tmp 50) (by rfl) rb g6 7 cap6 1 8 1 w6.heap.size ([n0, d1, (⟨#[62]⟩ : ByteArray), d2, e6] ++ [(⟨#[104, 105, 103, 104]⟩ : ByteArray), e9]) [(⟨#[105, 110]⟩ : ByteArray)] (by rfl) (HR6.out.alloc _) (by rfl) (ObjAt.new _ _ _) rfl rfl (by decide) (by decide) (Nat.le_trans HR6.out.2.2.1 (Nat.le_of_lt (HR6.out.alloc _).2.2.2)) ?_; intro g8 cap8 w8 row8 gr8; have HX8 := Lib.hid (below_grown (HX6.out.alloc (Nat.le_of_lt hg6) _) gr8 (Nat.le_trans (Nat.le_of_lt hgr) HR6.out.2.2.1) (Nat.le_of_lt (HO6.out.alloc _).lt)); have hg8 := (obj_grown (HO6.out.alloc (.cells #[.string (⟨#[105, 110]⟩ : ByteArray)] 9)) gr8 (Nat.lt_of_lt_of_le hgr HR6.out.2.2.1)).lt; have HR8 := Lib.hid row8; clear row8 gr8)
      have HT8 : jn (([n0, d1, (⟨#[62]⟩ : ByteArray), d2, e6] ++ [(⟨#[104, 105, 103, 104]⟩ : ByteArray), e9]) ++ [(⟨#[105, 110]⟩ : ByteArray)]) = headT f ++ (⟨#[32, 104, 105, 103, 104, 32]⟩ : ByteArray) ++ e9 ++ (⟨#[32, 105, 110]⟩ : ByteArray) := by
        rw [jn_append _ _ _ (by simp), jn_append _ _ _ (by simp), H_T5.out, jn_cons, jn_one, jn_one, lit_high, lit_in]
        simp only [ByteArray.append_assoc]
      have z8 : (jn (([n0, d1, (⟨#[62]⟩ : ByteArray), d2, e6] ++ [(⟨#[104, 105, 103, 104]⟩ : ByteArray), e9]) ++ [(⟨#[105, 110]⟩ : ByteArray)])).size ≤ 1000 := by
        have z5 := H_zj.out
        rw [H_T5.out] at z5
        have k1 : (⟨#[32, 104, 105, 103, 104, 32]⟩ : ByteArray).size = 6 := rfl
        have k2 : (⟨#[32, 105, 110]⟩ : ByteArray).size = 3 := rfl
        rw [HT8]
        simp only [ByteArray.size_append, k1, k2]
        omega
      refine (Tryd.strings_Join g8 0 cap8 ((([n0, d1, (⟨#[62]⟩ : ByteArray), d2, e6] ++ [(⟨#[104, 105, 103, 104]⟩ : ByteArray), e9]) ++ [(⟨#[105, 110]⟩ : ByteArray)])) ⟨#[32]⟩ w8 (HR8.out.at_ (by rfl)) HR8.out.2.2.2 (by show 8 ≤ _; decide) (by exact HR8.out.2.1) (Nat.le_trans (jn_len (n := 1000) (by exact z8)) (by decide))).mono ?_
      rintro e wj ⟨rfl, hbj⟩
      have HXj := Lib.hid (HX8.out.trans (hbj.mono (Nat.le_of_lt hg8)))
      clear hbj
      rw [show (⟨(Lib.join ((([n0, d1, (⟨#[62]⟩ : ByteArray), d2, e6] ++ [(⟨#[104, 105, 103, 104]⟩ : ByteArray), e9]) ++ [(⟨#[105, 110]⟩ : ByteArray)]).map (·.data.toList)) (⟨#[32]⟩ : ByteArray).data.toList).toArray⟩ : ByteArray) = _ from HT8]
      obtain ⟨tx, htx⟩ : ∃ d, d = headT f ++ (⟨#[32, 104, 105, 103, 104, 32]⟩ : ByteArray) ++ e9 ++ (⟨#[32, 105, 110]⟩ : ByteArray) := ⟨_, rfl⟩
      rw [← htx]
      have H_tx := Lib.hid htx
      clear htx HT8 z8
      go_wp2
      go_ret
      refine ⟨?_, by rw [HGG.out]; exact HXj.out⟩
      unfold textF
      rw [if_pos H_k.out, ← H_e9.out, ← H_wb.out]
      exact congrArg (fun d => Ending.returned (Value.string d)) H_tx.out
  · have H_k := Lib.hid hk
    have HSH := Lib.hid (shapes_v 4 n0 false (by rw [H_n0.out, hk]) (by rfl) (w.alloc (.cells C 49)))
    have x0 : (w.alloc (.cells C 49)).cell? ⟨w.heap.size, 0, none⟩ = some (.int .i64 4) := by rw [Fr.m0 HF.out HO0.out, hk]
    go_wp2_with fail
    refine HSH.out.mono ?_
    rintro e w1 ⟨⟨l0, m0, ok, rfl⟩, hb1⟩
    clear x0 HSH
    have HX1 := Lib.hid (HX0.out.trans (hb1.mono (Nat.le_of_lt HO0.out.lt)))
    have HL1 := Lib.hid (laidW_below HL0.out hb1 (Nat.le_refl _))
    have HO1 := Lib.hid (obj_call HO0.out hb1)
    clear hb1 HX0 HL0 HO0
    generalize hgg : w.heap.size = g at *
    have HGG := Lib.hid hgg
    clear hgg
    have hb1s := (Below.refl w1.heap.size w1).alloc (Nat.le_refl _) (.cells (#[.string n0, .bool false, .int .i64 l0, .int .i64 m0] : Array Value) 82)
    have HXs := Lib.hid (HX1.out.trans (hb1s.mono (Nat.le_of_lt HO1.out.lt)))
    have HLs := Lib.hid (laidW_below HL1.out hb1s (Nat.le_refl _))
    have HOs := Lib.hid (obj_call HO1.out hb1s)
    have HSs := Lib.hid (ObjAt.new w1 (#[.string n0, .bool false, .int .i64 l0, .int .i64 m0] : Array Value) 82)
    have hsb := HO1.out.lt
    clear hb1s
    have y2 := Fr.m2 HF.out HOs.out
    go_wp2_with fail
    generalize w1.alloc (.cells (#[.string n0, .bool false, .int .i64 l0, .int .i64 m0] : Array Value) 82) = ws at *
    generalize w1.heap.size = sb at *
    clear y2 HX1 HL1 HO1
    obtain ⟨ds, h_ds⟩ : ∃ d, d = (⟨#[42]⟩ : ByteArray) := ⟨_, rfl⟩
    rw [← h_ds]
    have H_ds := Lib.hid h_ds
    clear h_ds
    have r0 : ¬ (9223372036854775807 < e5.size + 1) := by omega
    have r1 : ¬ (9223372036854775807 < e5.size + 1 + d8.size) := by omega
    have HOb := Lib.hid (show ObjAt ws.drew g C 49 from HOs.out)
    have HXb := Lib.hid (show Below g w ws.drew from ⟨HXs.out.os, HXs.out.tape, HXs.out.output, HXs.out.size, HXs.out.block⟩)
    have HLb := Lib.hid (show LaidW ws.drew from laidW_heap HLs.out rfl)
    have HSb := Lib.hid (show ObjAt ws.drew sb _ 82 from HSs.out)
    go_region_held3 (fun w' => w'.cell? ⟨g, 1, none⟩ = some (.int .u8 f.s) ∧ w'.cell? ⟨g, 5, none⟩ = some (.int .u16 f.ec) ∧ w'.cell? ⟨g, 6, none⟩ = some (.int .u8 f.ea) ∧ w'.cell? ⟨g, 7, none⟩ = some (.int .u16 f.ei) ∧ w'.cell? ⟨g, 8, none⟩ = some (.int .u16 f.h) ∧ w'.cell? ⟨sb, 0, none⟩ = some (.string n0))
      (first | exact ⟨Fr.m1 HF.out HOb.out, Fr.m5 HF.out HOb.out, Fr.m6 HF.out HOb.out, Fr.m7 HF.out HOb.out, Fr.m8 HF.out HOb.out, HSb.out.cell 0⟩ | exact ⟨Fr.m1 HF.out HOm1.out, Fr.m5 HF.out HOm1.out, Fr.m6 HF.out HOm1.out, Fr.m7 HF.out HOm1.out, Fr.m8 HF.out HOm1.out, HSm1.out.cell 0⟩ | exact ⟨Fr.m1 HF.out HOm2.out, Fr.m5 HF.out HOm2.out, Fr.m6 HF.out HOm2.out, Fr.m7 HF.out HOm2.out, Fr.m8 HF.out HOm2.out, HSm2.out.cell 0⟩ | exact ⟨Fr.m1 HF.out HOm3.out, Fr.m5 HF.out HOm3.out, Fr.m6 HF.out HOm3.out, Fr.m7 HF.out HOm3.out, Fr.m8 HF.out HOm3.out, HSm3.out.cell 0⟩ | exact ⟨Fr.m1 HF.out (HOm3.out.alloc _), Fr.m5 HF.out (HOm3.out.alloc _), Fr.m6 HF.out (HOm3.out.alloc _), Fr.m7 HF.out (HOm3.out.alloc _), Fr.m8 HF.out (HOm3.out.alloc _), (HSm3.out.alloc _).cell 0⟩)
      (first
        | (go_at_call 59; (with_reducible refine (itoa_int f.s (by omega) d1 H_d1.out _ HLb.out).mono ?_); rintro e wm1 ⟨rfl, hbm1⟩; have HXm1 := Lib.hid (HXb.out.trans (hbm1.mono (Nat.le_of_lt HOb.out.lt))); have HLm1 := Lib.hid (laidW_below HLb.out hbm1 (Nat.le_refl _)); have HOm1 := Lib.hid (obj_call HOb.out hbm1); have HSm1 := Lib.hid (obj_call HSb.out hbm1))
        | (go_at_call 72; (with_reducible refine (epText_d f.ec f.ea f.ei ok_ec ok_ea ok_ei e5 H_e5.out _ HLm1.out).mono ?_); rintro e wm2 ⟨rfl, hbm2⟩; have HXm2 := Lib.hid (HXm1.out.trans (hbm2.mono (Nat.le_of_lt HOm1.out.lt))); have HLm2 := Lib.hid (laidW_below HLm1.out hbm2 (Nat.le_refl _)); have HOm2 := Lib.hid (obj_call HOm1.out hbm2); have HSm2 := Lib.hid (obj_call HSm1.out hbm2))
        | (go_at_call 59; (with_reducible refine (itoa_int f.h (by omega) d8 H_d8.out _ HLm2.out).mono ?_); rintro e wm3 ⟨rfl, hbm3⟩; have HXm3 := Lib.hid (HXm2.out.trans (hbm3.mono (Nat.le_of_lt HOm2.out.lt))); have HLm3 := Lib.hid (laidW_below HLm2.out hbm3 (Nat.le_refl _)); have HOm3 := Lib.hid (obj_call HOm2.out hbm3); have HSm3 := Lib.hid (obj_call HSm2.out hbm3)))
    clear r0 r1
    obtain ⟨e6, h_e6⟩ : ∃ d, d = e5 ++ (⟨#[47]⟩ : ByteArray) ++ d8 := ⟨_, rfl⟩
    rw [← h_e6]
    have l1 : (⟨#[32]⟩ : ByteArray).size = 1 := rfl
    have l2 : (⟨#[62]⟩ : ByteArray).size = 1 := rfl
    have l3 : (⟨#[47]⟩ : ByteArray).size = 1 := rfl
    have z_e6 : e6.size ≤ 43 := by
      rw [h_e6]
      simp only [ByteArray.size_append, l3]
      omega
    have z_ds : ds.size = 1 := by rw [H_ds.out]; rfl
    have z_j : (jn [n0, d1, (⟨#[62]⟩ : ByteArray), ds, e6]).size ≤ 100 := by
      simp only [jn_cons, jn_one, ByteArray.size_append, l1, l2]
      omega
    have HT5 : jn [n0, d1, (⟨#[62]⟩ : ByteArray), ds, e6] = headT f := by
      simp only [jn_cons, jn_one]
      rw [h_e6]
      unfold headT
      rw [if_pos hk, ← H_n0.out, ← H_d1.out, ← H_ds.out, ← H_e5.out, ← H_d8.out, lit_gt]
      simp only [ByteArray.append_assoc]
    have H_T5 := Lib.hid HT5
    have H_zj := Lib.hid z_j
    clear h_e6 HT5 l1 l2 l3 z_j
    have HR5 := Lib.hid (show StrRow (wm3.alloc (.cells #[.string n0, .string d1, .string (⟨#[62]⟩ : ByteArray), .string ds, .string e6] 9)) wm3.heap.size wm3.heap.size 5 5 [n0, d1, (⟨#[62]⟩ : ByteArray), ds, e6] from StrRow.new wm3 [n0, d1, (⟨#[62]⟩ : ByteArray), ds, e6] 5 rfl (by decide) (by decide))
    have hbr := (Below.refl wm3.heap.size wm3).alloc (Nat.le_refl _) (.cells #[.string n0, .string d1, .string (⟨#[62]⟩ : ByteArray), .string ds, .string e6] 9)
    have HXr := Lib.hid (HXm3.out.trans (hbr.mono (Nat.le_of_lt HOm3.out.lt)))
    have HLr := Lib.hid (laidW_below HLm3.out hbr (Nat.le_refl _))
    have HOr := Lib.hid (obj_call HOm3.out hbr)
    have hgr := HOm3.out.lt
    clear hbr
    generalize wm3.alloc (.cells #[.string n0, .string d1, .string (⟨#[62]⟩ : ByteArray), .string ds, .string e6] 9) = wr at *
    generalize wm3.heap.size = rb at *
    have x0 : wr.cell? ⟨g, 0, none⟩ = some (.int .i64 4) := by rw [Fr.m0 HF.out HOr.out, hk]
    obtain ⟨d_b, h_d_b⟩ : ∃ d, d = dgB f.b := ⟨_, rfl⟩
    have z_d_b : d_b.size ≤ 10 := by rw [h_d_b]; exact dgB_size (by omega)
    have H_d_b := Lib.hid h_d_b
    clear h_d_b
    obtain ⟨d_vi, h_d_vi⟩ : ∃ d, d = dgB f.vi := ⟨_, rfl⟩
    have z_d_vi : d_vi.size ≤ 10 := by rw [h_d_vi]; exact dgB_size (by omega)
    have H_d_vi := Lib.hid h_d_vi
    clear h_d_vi
    obtain ⟨d_vs, h_d_vs⟩ : ∃ d, d = dgB f.vs := ⟨_, rfl⟩
    have z_d_vs : d_vs.size ≤ 10 := by rw [h_d_vs]; exact dgB_size (by omega)
    have H_d_vs := Lib.hid h_d_vs
    clear h_d_vs
    obtain ⟨d_q, h_d_q⟩ : ∃ d, d = dgB f.q := ⟨_, rfl⟩
    have z_d_q : d_q.size ≤ 10 := by rw [h_d_q]; exact dgB_size (by omega)
    have H_d_q := Lib.hid h_d_q
    clear h_d_q
    obtain ⟨d_p, h_d_p⟩ : ∃ d, d = dgB (f.p + 1) := ⟨_, rfl⟩
    have z_d_p : d_p.size ≤ 10 := by rw [h_d_p]; exact dgB_size (by omega)
    have H_d_p := Lib.hid h_d_p
    clear h_d_p
    have u_vs : IntKind.u64.wrap f.vs = f.vs := by simp [IntKind.wrap, IntKind.bits, IntKind.signed]; omega
    go_wp2_with fail
    clear x0
    have r0 : ¬ (9223372036854775807 < d_vi.size + 1) := by omega
    have r1 : ¬ (9223372036854775807 < d_vi.size + 1 + d_vs.size) := by omega
    have HOo := Lib.hid (show ObjAt wr.drew g C 49 from HOr.out)
    have HXo := Lib.hid (show Below g w wr.drew from ⟨HXr.out.os, HXr.out.tape, HXr.out.output, HXr.out.size, HXr.out.block⟩)
    have HLo := Lib.hid (show LaidW wr.drew from laidW_heap HLr.out rfl)
    have HRo := Lib.hid (show StrRow wr.drew rb rb 5 5 _ from HR5.out)
    go_region_held3 (fun w' => w'.cell? ⟨g, 14, none⟩ = some (.int .u16 f.vi) ∧ w'.cell? ⟨g, 15, none⟩ = some (.int .u32 f.vs))
      (first | exact ⟨Fr.m14 HF.out HOo.out, Fr.m15 HF.out HOo.out⟩ | exact ⟨Fr.m14 HF.out HOp1.out, Fr.m15 HF.out HOp1.out⟩ | exact ⟨Fr.m14 HF.out HOp2.out, Fr.m15 HF.out HOp2.out⟩)
      (first
        | (go_at_call 59; (with_reducible refine (itoa_int f.vi (by omega) d_vi H_d_vi.out _ HLo.out).mono ?_); rintro e wp1 ⟨rfl, hbp1⟩; have HXp1 := Lib.hid (HXo.out.trans (hbp1.mono (Nat.le_of_lt HOo.out.lt))); have HLp1 := Lib.hid (laidW_below HLo.out hbp1 (Nat.le_refl _)); have HOp1 := Lib.hid (obj_call HOo.out hbp1); have HRp1 := Lib.hid (HRo.out.call hbp1))
        | (go_at_call 73; (with_reducible refine (fmt_int f.vs (by omega) d_vs H_d_vs.out _ HLp1.out).mono ?_); rintro e wp2 ⟨rfl, hbp2⟩; have HXp2 := Lib.hid (HXp1.out.trans (hbp2.mono (Nat.le_of_lt HOp1.out.lt))); have HLp2 := Lib.hid (laidW_below HLp1.out hbp2 (Nat.le_refl _)); have HOp2 := Lib.hid (obj_call HOp1.out hbp2); have HRp2 := Lib.hid (HRp1.out.call hbp2)))
    clear r0 r1
    obtain ⟨dv, h_dv⟩ : ∃ d, d = d_vi ++ (⟨#[46]⟩ : ByteArray) ++ d_vs := ⟨_, rfl⟩
    rw [← h_dv]
    have z_dv : dv.size ≤ 21 := by
      rw [h_dv]
      have l1 : (⟨#[46]⟩ : ByteArray).size = 1 := rfl
      simp only [ByteArray.size_append, l1]
      omega
    have H_dv := Lib.hid h_dv
    clear h_dv
    go_wp2_with fail
    have HOq := Lib.hid (show ObjAt wp2.drew g C 49 from HOp2.out)
    have HXq := Lib.hid (show Below g w wp2.drew from ⟨HXp2.out.os, HXp2.out.tape, HXp2.out.output, HXp2.out.size, HXp2.out.block⟩)
    have HLq := Lib.hid (show LaidW wp2.drew from laidW_heap HLp2.out rfl)
    have HRq := Lib.hid (show StrRow wp2.drew rb rb 5 5 _ from HRp2.out)
    go_region_held3 (fun w' => w'.cell? ⟨g, 13, none⟩ = some (.int .u8 f.b) ∧ w'.cell? ⟨g, 16, none⟩ = some (.int .u8 f.p) ∧ w'.cell? ⟨g, 17, none⟩ = some (.int .u8 f.q))
      (first | exact ⟨Fr.m13 HF.out HOq.out, Fr.m16 HF.out HOq.out, Fr.m17 HF.out HOq.out⟩ | exact ⟨Fr.m13 HF.out HOq1.out, Fr.m16 HF.out HOq1.out, Fr.m17 HF.out HOq1.out⟩ | exact ⟨Fr.m13 HF.out HOq2.out, Fr.m16 HF.out HOq2.out, Fr.m17 HF.out HOq2.out⟩ | exact ⟨Fr.m13 HF.out HOq3.out, Fr.m16 HF.out HOq3.out, Fr.m17 HF.out HOq3.out⟩ | exact ⟨Fr.m13 HF.out (HOq3.out.alloc _), Fr.m16 HF.out (HOq3.out.alloc _), Fr.m17 HF.out (HOq3.out.alloc _)⟩ | exact ⟨Fr.m13 HF.out HO6.out, Fr.m16 HF.out HO6.out, Fr.m17 HF.out HO6.out⟩)
      (first
        | (go_at_call 59; (with_reducible refine (itoa_int f.b (by omega) d_b H_d_b.out _ HLq.out).mono ?_); rintro e wq1 ⟨rfl, hbq1⟩; have HXq1 := Lib.hid (HXq.out.trans (hbq1.mono (Nat.le_of_lt HOq.out.lt))); have HLq1 := Lib.hid (laidW_below HLq.out hbq1 (Nat.le_refl _)); have HOq1 := Lib.hid (obj_call HOq.out hbq1); have HRq1 := Lib.hid (HRq.out.call hbq1))
        | (go_at_call 59; (with_reducible refine (itoa_int (f.p + 1) (by omega) d_p H_d_p.out _ HLq1.out).mono ?_); rintro e wq2 ⟨rfl, hbq2⟩; have HXq2 := Lib.hid (HXq1.out.trans (hbq2.mono (Nat.le_of_lt HOq1.out.lt))); have HLq2 := Lib.hid (laidW_below HLq1.out hbq2 (Nat.le_refl _)); have HOq2 := Lib.hid (obj_call HOq1.out hbq2); have HRq2 := Lib.hid (HRq1.out.call hbq2))
        | (go_at_call 59; (with_reducible refine (itoa_int f.q (by omega) d_q H_d_q.out _ HLq2.out).mono ?_); rintro e wq3 ⟨rfl, hbq3⟩; have HXq3 := Lib.hid (HXq2.out.trans (hbq3.mono (Nat.le_of_lt HOq2.out.lt))); have HLq3 := Lib.hid (laidW_below HLq2.out hbq3 (Nat.le_refl _)); have HOq3 := Lib.hid (obj_call HOq2.out hbq3); have HRq3 := Lib.hid (HRq2.out.call hbq3))
        | (refine step_append_str rfl (.tmp 69) (.tmp 84) (by rfl) rb rb 5 5 6 11 6 wq3.heap.size [n0, d1, (⟨#[62]⟩ : ByteArray), ds, e6] [(⟨#[98, 108, 111, 99, 107]⟩ : ByteArray), d_b, dv, d_p, (⟨#[111, 102]⟩ : ByteArray), d_q] (by rfl) (HRq3.out.alloc _) (by rfl) (ObjAt.new _ _ _) rfl rfl (by decide) (by decide) (Nat.le_of_lt (HRq3.out.alloc _).2.2.2) ?_; intro g6 cap6 w6 row6 gr6; have HO6 := Lib.hid (obj_grown (HOq3.out.alloc _) gr6 hgr); have HX6 := Lib.hid (below_grown (HXq3.out.alloc (Nat.le_of_lt HOq3.out.lt) _) gr6 (Nat.le_of_lt hgr) (Nat.le_of_lt (HOq3.out.alloc _).lt)); have HR6 := Lib.hid row6; clear row6 gr6))
    have HT8 : jn ([n0, d1, (⟨#[62]⟩ : ByteArray), ds, e6] ++ [(⟨#[98, 108, 111, 99, 107]⟩ : ByteArray), d_b, dv, d_p, (⟨#[111, 102]⟩ : ByteArray), d_q]) = headT f ++ (⟨#[32, 98, 108, 111, 99, 107, 32]⟩ : ByteArray) ++ d_b ++ (⟨#[32]⟩ : ByteArray) ++ d_vi ++ (⟨#[46]⟩ : ByteArray) ++ d_vs ++ (⟨#[32]⟩ : ByteArray) ++ d_p ++ (⟨#[32, 111, 102, 32]⟩ : ByteArray) ++ d_q := by
      rw [jn_append _ _ _ (by simp), H_T5.out]
      simp only [jn_cons, jn_one]
      rw [H_dv.out, lit_block, lit_of]
      simp only [ByteArray.append_assoc]
    have z8 : (jn ([n0, d1, (⟨#[62]⟩ : ByteArray), ds, e6] ++ [(⟨#[98, 108, 111, 99, 107]⟩ : ByteArray), d_b, dv, d_p, (⟨#[111, 102]⟩ : ByteArray), d_q])).size ≤ 1000 := by
      have z5 := H_zj.out
      have l1 : (⟨#[32]⟩ : ByteArray).size = 1 := rfl
      have k1 : (⟨#[98, 108, 111, 99, 107]⟩ : ByteArray).size = 5 := rfl
      have k2 : (⟨#[111, 102]⟩ : ByteArray).size = 2 := rfl
      rw [jn_append _ _ _ (by simp)]
      simp only [jn_cons, jn_one, ByteArray.size_append, k1, k2, l1]
      simp only [jn_cons, jn_one, ByteArray.size_append, l1] at z5
      omega
    go_wp2_with fail
    refine (Tryd.strings_Join g6 0 cap6 (([n0, d1, (⟨#[62]⟩ : ByteArray), ds, e6] ++ [(⟨#[98, 108, 111, 99, 107]⟩ : ByteArray), d_b, dv, d_p, (⟨#[111, 102]⟩ : ByteArray), d_q])) ⟨#[32]⟩ w6 (HR6.out.at_ (by rfl)) HR6.out.2.2.2 (by show 11 ≤ _; decide) (by exact HR6.out.2.1) (Nat.le_trans (jn_len (n := 1000) (by exact z8)) (by decide))).mono ?_
    rintro e wj ⟨rfl, hbj⟩
    have HXj := Lib.hid (HX6.out.trans (hbj.mono (Nat.le_of_lt HO6.out.lt)))
    clear hbj
    rw [show (⟨(Lib.join (([n0, d1, (⟨#[62]⟩ : ByteArray), ds, e6] ++ [(⟨#[98, 108, 111, 99, 107]⟩ : ByteArray), d_b, dv, d_p, (⟨#[111, 102]⟩ : ByteArray), d_q]).map (·.data.toList)) (⟨#[32]⟩ : ByteArray).data.toList).toArray⟩ : ByteArray) = _ from HT8]
    obtain ⟨tx, htx⟩ : ∃ d, d = headT f ++ (⟨#[32, 98, 108, 111, 99, 107, 32]⟩ : ByteArray) ++ d_b ++ (⟨#[32]⟩ : ByteArray) ++ d_vi ++ (⟨#[46]⟩ : ByteArray) ++ d_vs ++ (⟨#[32]⟩ : ByteArray) ++ d_p ++ (⟨#[32, 111, 102, 32]⟩ : ByteArray) ++ d_q := ⟨_, rfl⟩
    rw [← htx]
    have H_tx := Lib.hid htx
    clear htx HT8 z8
    go_wp2
    go_ret
    refine ⟨?_, by rw [HGG.out]; exact HXj.out⟩
    unfold textF
    have h4 := H_k.out
    rw [if_neg (by omega), if_pos h4, ← H_d_b.out, ← H_d_vi.out, ← H_d_vs.out, ← H_d_p.out, ← H_d_q.out]
    exact congrArg (fun d => Ending.returned (Value.string d)) H_tx.out
  · have H_k := Lib.hid hk
    have n_3 : (f.k == 3) = false := by simp; exact hk.1
    have n_4 : (f.k == 4) = false := by simp; exact hk.2
    have HSH := Lib.hid (shapes_v f.k n0 true (by rw [H_n0.out]) (by rw [shape_to hk.2]) (w.alloc (.cells C 49)))
    have x0 : (w.alloc (.cells C 49)).cell? ⟨w.heap.size, 0, none⟩ = some (.int .i64 f.k) := by rw [Fr.m0 HF.out HO0.out]
    go_wp2_with fail
    refine HSH.out.mono ?_
    rintro e w1 ⟨⟨l0, m0, ok, rfl⟩, hb1⟩
    clear x0 HSH
    have HX1 := Lib.hid (HX0.out.trans (hb1.mono (Nat.le_of_lt HO0.out.lt)))
    have HL1 := Lib.hid (laidW_below HL0.out hb1 (Nat.le_refl _))
    have HO1 := Lib.hid (obj_call HO0.out hb1)
    clear hb1 HX0 HL0 HO0
    generalize hgg : w.heap.size = g at *
    have HGG := Lib.hid hgg
    clear hgg
    have hb1s := (Below.refl w1.heap.size w1).alloc (Nat.le_refl _) (.cells (#[.string n0, .bool true, .int .i64 l0, .int .i64 m0] : Array Value) 82)
    have HXs := Lib.hid (HX1.out.trans (hb1s.mono (Nat.le_of_lt HO1.out.lt)))
    have HLs := Lib.hid (laidW_below HL1.out hb1s (Nat.le_refl _))
    have HOs := Lib.hid (obj_call HO1.out hb1s)
    have HSs := Lib.hid (ObjAt.new w1 (#[.string n0, .bool true, .int .i64 l0, .int .i64 m0] : Array Value) 82)
    have hsb := HO1.out.lt
    clear hb1s
    have y2 := Fr.m2 HF.out HOs.out
    go_wp2_with fail
    generalize w1.alloc (.cells (#[.string n0, .bool true, .int .i64 l0, .int .i64 m0] : Array Value) 82) = ws at *
    generalize w1.heap.size = sb at *
    clear y2 HX1 HL1 HO1
    refine (itoa_int f.d (by omega) d2 H_d2.out _ HLs.out).mono ?_
    rintro e w2 ⟨rfl, hb2⟩
    have HX2 := Lib.hid (HXs.out.trans (hb2.mono (Nat.le_of_lt HOs.out.lt)))
    have HL2 := Lib.hid (laidW_below HLs.out hb2 (Nat.le_refl _))
    have HO2 := Lib.hid (obj_call HOs.out hb2)
    have HS2 := Lib.hid (obj_call HSs.out hb2)
    clear hb2
    go_wp2_with fail
    have r0 : ¬ (9223372036854775807 < e5.size + 1) := by omega
    have r1 : ¬ (9223372036854775807 < e5.size + 1 + d8.size) := by omega
    have HOb := Lib.hid (show ObjAt w2.drew g C 49 from HO2.out)
    have HXb := Lib.hid (show Below g w w2.drew from ⟨HX2.out.os, HX2.out.tape, HX2.out.output, HX2.out.size, HX2.out.block⟩)
    have HLb := Lib.hid (show LaidW w2.drew from laidW_heap HL2.out rfl)
    have HSb := Lib.hid (show ObjAt w2.drew sb _ 82 from HS2.out)
    go_region_held3 (fun w' => w'.cell? ⟨g, 1, none⟩ = some (.int .u8 f.s) ∧ w'.cell? ⟨g, 5, none⟩ = some (.int .u16 f.ec) ∧ w'.cell? ⟨g, 6, none⟩ = some (.int .u8 f.ea) ∧ w'.cell? ⟨g, 7, none⟩ = some (.int .u16 f.ei) ∧ w'.cell? ⟨g, 8, none⟩ = some (.int .u16 f.h) ∧ w'.cell? ⟨sb, 0, none⟩ = some (.string n0))
      (first | exact ⟨Fr.m1 HF.out HOb.out, Fr.m5 HF.out HOb.out, Fr.m6 HF.out HOb.out, Fr.m7 HF.out HOb.out, Fr.m8 HF.out HOb.out, HSb.out.cell 0⟩ | exact ⟨Fr.m1 HF.out HOm1.out, Fr.m5 HF.out HOm1.out, Fr.m6 HF.out HOm1.out, Fr.m7 HF.out HOm1.out, Fr.m8 HF.out HOm1.out, HSm1.out.cell 0⟩ | exact ⟨Fr.m1 HF.out HOm2.out, Fr.m5 HF.out HOm2.out, Fr.m6 HF.out HOm2.out, Fr.m7 HF.out HOm2.out, Fr.m8 HF.out HOm2.out, HSm2.out.cell 0⟩ | exact ⟨Fr.m1 HF.out HOm3.out, Fr.m5 HF.out HOm3.out, Fr.m6 HF.out HOm3.out, Fr.m7 HF.out HOm3.out, Fr.m8 HF.out HOm3.out, HSm3.out.cell 0⟩ | exact ⟨Fr.m1 HF.out (HOm3.out.alloc _), Fr.m5 HF.out (HOm3.out.alloc _), Fr.m6 HF.out (HOm3.out.alloc _), Fr.m7 HF.out (HOm3.out.alloc _), Fr.m8 HF.out (HOm3.out.alloc _), (HSm3.out.alloc _).cell 0⟩)
      (first
        | (go_at_call 59; (with_reducible refine (itoa_int f.s (by omega) d1 H_d1.out _ HLb.out).mono ?_); rintro e wm1 ⟨rfl, hbm1⟩; have HXm1 := Lib.hid (HXb.out.trans (hbm1.mono (Nat.le_of_lt HOb.out.lt))); have HLm1 := Lib.hid (laidW_below HLb.out hbm1 (Nat.le_refl _)); have HOm1 := Lib.hid (obj_call HOb.out hbm1); have HSm1 := Lib.hid (obj_call HSb.out hbm1))
        | (go_at_call 72; (with_reducible refine (epText_d f.ec f.ea f.ei ok_ec ok_ea ok_ei e5 H_e5.out _ HLm1.out).mono ?_); rintro e wm2 ⟨rfl, hbm2⟩; have HXm2 := Lib.hid (HXm1.out.trans (hbm2.mono (Nat.le_of_lt HOm1.out.lt))); have HLm2 := Lib.hid (laidW_below HLm1.out hbm2 (Nat.le_refl _)); have HOm2 := Lib.hid (obj_call HOm1.out hbm2); have HSm2 := Lib.hid (obj_call HSm1.out hbm2))
        | (go_at_call 59; (with_reducible refine (itoa_int f.h (by omega) d8 H_d8.out _ HLm2.out).mono ?_); rintro e wm3 ⟨rfl, hbm3⟩; have HXm3 := Lib.hid (HXm2.out.trans (hbm3.mono (Nat.le_of_lt HOm2.out.lt))); have HLm3 := Lib.hid (laidW_below HLm2.out hbm3 (Nat.le_refl _)); have HOm3 := Lib.hid (obj_call HOm2.out hbm3); have HSm3 := Lib.hid (obj_call HSm2.out hbm3)))
    clear r0 r1
    obtain ⟨e6, h_e6⟩ : ∃ d, d = e5 ++ (⟨#[47]⟩ : ByteArray) ++ d8 := ⟨_, rfl⟩
    rw [← h_e6]
    have l1 : (⟨#[32]⟩ : ByteArray).size = 1 := rfl
    have l2 : (⟨#[62]⟩ : ByteArray).size = 1 := rfl
    have l3 : (⟨#[47]⟩ : ByteArray).size = 1 := rfl
    have z_e6 : e6.size ≤ 43 := by
      rw [h_e6]
      simp only [ByteArray.size_append, l3]
      omega
    have z_j : (jn [n0, d1, (⟨#[62]⟩ : ByteArray), d2, e6]).size ≤ 100 := by
      simp only [jn_cons, jn_one, ByteArray.size_append, l1, l2]
      omega
    have HT5 : jn [n0, d1, (⟨#[62]⟩ : ByteArray), d2, e6] = headT f := by
      simp only [jn_cons, jn_one]
      rw [h_e6]
      unfold headT
      rw [if_neg hk.2, ← H_n0.out, ← H_d1.out, ← H_d2.out, ← H_e5.out, ← H_d8.out, lit_gt]
      simp only [ByteArray.append_assoc]
    have H_T5 := Lib.hid HT5
    have H_zj := Lib.hid z_j
    clear h_e6 HT5 l1 l2 l3 z_j
    have HR5 := Lib.hid (show StrRow (wm3.alloc (.cells #[.string n0, .string d1, .string (⟨#[62]⟩ : ByteArray), .string d2, .string e6] 9)) wm3.heap.size wm3.heap.size 5 5 [n0, d1, (⟨#[62]⟩ : ByteArray), d2, e6] from StrRow.new wm3 [n0, d1, (⟨#[62]⟩ : ByteArray), d2, e6] 5 rfl (by decide) (by decide))
    have hbr := (Below.refl wm3.heap.size wm3).alloc (Nat.le_refl _) (.cells #[.string n0, .string d1, .string (⟨#[62]⟩ : ByteArray), .string d2, .string e6] 9)
    have HXr := Lib.hid (HXm3.out.trans (hbr.mono (Nat.le_of_lt HOm3.out.lt)))
    have HLr := Lib.hid (laidW_below HLm3.out hbr (Nat.le_refl _))
    have HOr := Lib.hid (obj_call HOm3.out hbr)
    have hgr := HOm3.out.lt
    clear hbr
    generalize wm3.alloc (.cells #[.string n0, .string d1, .string (⟨#[62]⟩ : ByteArray), .string d2, .string e6] 9) = wr at *
    generalize wm3.heap.size = rb at *
    have x0 : wr.cell? ⟨g, 0, none⟩ = some (.int .i64 f.k) := by rw [Fr.m0 HF.out HOr.out]
    go_wp2_with fail
    refine (Tryd.strings_Join rb 0 5 ([n0, d1, (⟨#[62]⟩ : ByteArray), d2, e6]) ⟨#[32]⟩ wr (HR5.out.at_ (by rfl)) HR5.out.2.2.2 (by show 5 ≤ _; decide) (by exact HR5.out.2.1) (Nat.le_trans (jn_len (n := 1000) (by have := H_zj.out; omega)) (by decide))).mono ?_
    rintro e wj ⟨rfl, hbj⟩
    have HXj := Lib.hid (HXr.out.trans (hbj.mono (Nat.le_of_lt HOr.out.lt)))
    clear hbj
    rw [show (⟨(Lib.join ([n0, d1, (⟨#[62]⟩ : ByteArray), d2, e6].map (·.data.toList)) (⟨#[32]⟩ : ByteArray).data.toList).toArray⟩ : ByteArray) = headT f from H_T5.out]
    go_wp2
    go_ret
    refine ⟨?_, by rw [HGG.out]; exact HXj.out⟩
    unfold textF
    rw [if_neg H_k.out.1, if_neg H_k.out.2]
    rfl
end Go.Proofs.YtmehafolnpkmhaaDoor
