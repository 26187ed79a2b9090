/- Eyes within their text; frame.get. -/
import Derived.Test.YtmehafolnpkmhaaDoorgOct
import Derived.Test.YtmehafolnpkmhaaDoorFraShapes
import Derived.BigQuiet
namespace Go.Proofs.YtmehafolnpkmhaaDoor
open Go.RowKit
/-- The number of n bytes from a on. -/
def nb (s : ByteArray) (a n : Nat) : Nat := Oct.num (s.extract a (a + n)).data.toList
theorem num_pow (l : List UInt8) (h : l.length ≤ 4) : Oct.num l < 256 ^ l.length := by
  match l, h with
  | [], _ => simp [Oct.num]
  | [a], _ => have := a.toNat_lt; simp [Oct.num]; omega
  | [a, b], _ => have := a.toNat_lt; have := b.toNat_lt; simp [Oct.num]; omega
  | [a, b, c], _ => have := a.toNat_lt; have := b.toNat_lt; have := c.toNat_lt; simp [Oct.num]; omega
  | [a, b, c, d], _ => have := a.toNat_lt; have := b.toNat_lt; have := c.toNat_lt; have := d.toNat_lt; simp [Oct.num]; omega
  | _ :: _ :: _ :: _ :: _ :: _, h => simp at h
theorem nb_lt (s : ByteArray) (a n : Nat) (hn : n ≤ 4) : nb s a n < 256 ^ n := by
  have hl : (s.extract a (a + n)).data.toList.length ≤ n := by
    rw [Array.length_toList]
    show (s.extract a (a + n)).size ≤ n
    rw [ByteArray.size_extract]; omega
  exact Nat.lt_of_lt_of_le (num_pow _ (by omega)) (Nat.pow_le_pow_right (by decide) hl)
theorem take_in (s : ByteArray) (a n : Nat) (h : a + n ≤ s.size) : Oct.take s a false (n : Int) = (s.extract a (a + n), a + n, false) := by
  unfold Oct.take
  rw [if_neg (by simp; omega)]
  simp
section
variable {w : World} {b : Nat} {s : ByteArray} {a : Nat}
theorem eyeByte_in (h : EyeAt w b s a false) (hs : s.size ≤ maxLen) (ha : a + 1 ≤ s.size) :
    Calls Tryd.prog 90 #[.pointer (some ⟨b, 0, none⟩)] w fun e w' => e = .returned (.int .u8 (nb s a 1 : Nat)) ∧ EyeAt w' b s (a + 1) false ∧ Keep (· = b) w w' := by
  have := eyeByte_any b s a false hs (by omega) w h
  have ht := take_in s a 1 ha
  rw [show ((1 : Nat) : Int) = 1 from rfl] at ht
  rw [ht] at this
  have hn := nb_lt s a 1 (by decide)
  unfold nb at hn ⊢
  rw [Nat.mod_eq_of_lt (by simpa using hn)] at this
  exact this
theorem eyeTwo_in (h : EyeAt w b s a false) (hs : s.size ≤ maxLen) (ha : a + 2 ≤ s.size) :
    Calls Tryd.prog 91 #[.pointer (some ⟨b, 0, none⟩)] w fun e w' => e = .returned (.int .u16 (nb s a 2 : Nat)) ∧ EyeAt w' b s (a + 2) false ∧ Keep (· = b) w w' := by
  have := eyeTwo_any b s a false hs (by omega) w h
  have ht := take_in s a 2 ha
  rw [show ((2 : Nat) : Int) = 2 from rfl] at ht
  rw [ht] at this
  have hn := nb_lt s a 2 (by decide)
  unfold nb at hn ⊢
  rw [Nat.mod_eq_of_lt (by simpa using hn)] at this
  exact this
theorem eyeFour_in (h : EyeAt w b s a false) (hs : s.size ≤ maxLen) (ha : a + 4 ≤ s.size) :
    Calls Tryd.prog 93 #[.pointer (some ⟨b, 0, none⟩)] w fun e w' => e = .returned (.int .u32 (nb s a 4 : Nat)) ∧ EyeAt w' b s (a + 4) false ∧ Keep (· = b) w w' := by
  have := eyeFour_any b s a false hs (by omega) w h
  have ht := take_in s a 4 ha
  rw [show ((4 : Nat) : Int) = 4 from rfl] at ht
  rw [ht] at this
  exact this
theorem res_c {P : Program} {fn : Func} {p : Tmp} {ty : TypeId} (h : fn.results = #[.cell p ty]) (tmps : Array Value) (w : World) (g : Nat) (t : TypeId) (cs : Array Value) (fr : Nat × Nat) (d : TypeDesc)
    (hp : tmps.getD p undef = .pointer (some ⟨g, 0, none⟩)) (hg : w.heap[g]? = some (.cells cs t fr))
    (hu : P.underlying ty = some d) (hd : (match d with | .struct _ | .array _ _ => true | _ => false) = true) (hi : (P.info? ty).map (·.size) = some cs.size) :
    (results fn tmps).run P w = .ok (.agg cs) w := by
  have := results_cell_row (P := P) h tmps w g t cs fr d hp hg hu hd hi
  exact this
set_option maxRecDepth 100000 in
theorem get_in (h : EyeAt w b s a false) (hs : s.size ≤ maxLen) (ha : a + 5 ≤ s.size) :
    Calls Tryd.prog 92 #[.pointer (some ⟨b, 0, none⟩)] w fun e w' => e = .returned (.agg #[.int .u16 (nb s a 2 : Nat), .int .u8 (nb s (a + 2) 1 : Nat), .int .u16 (nb s (a + 3) 2 : Nat)]) ∧ EyeAt w' b s (a + 5) false ∧ Keep (· = b) w w' := by
  have hlt := h.lt
  have H := Lib.hid h
  have HG := Lib.hid (ObjAt.new w #[.int .u16 0, .int .u8 0, .int .u16 0] 45)
  have HK := Lib.hid ((Keep.refl (fun k => k = b) w).alloc (.cells #[.int .u16 0, .int .u8 0, .int .u16 0] 45))
  have HE := Lib.hid (show EyeAt (w.alloc (.cells #[.int .u16 0, .int .u8 0, .int .u16 0] 45)) b s a false from h.alloc _)
  clear h
  go_enter Tryd.func92, Tryd.ntmps92
  go_wp2_with fail
  generalize w.alloc (.cells #[.int .u16 0, .int .u8 0, .int .u16 0] 45) = wa at *
  have hne : w.heap.size ≠ b := by omega
  generalize hgg : w.heap.size = g at *
  refine (eyeTwo_in HE.out hs (by omega)).mono ?_
  rintro e w1 ⟨rfl, he1, hk1⟩
  have HE1 := Lib.hid he1
  have HK1 := Lib.hid (HK.out.trans hk1)
  have HG1 := Lib.hid (hk1.obj HG.out hne)
  clear he1 hk1 HE HK HG
  go_wp2_with fail
  refine (eyeByte_in HE1.out hs (by omega)).mono ?_
  rintro e w2 ⟨rfl, he1, hk1⟩
  have HE2 := Lib.hid he1
  have HK2 := Lib.hid (HK1.out.trans hk1)
  have HG2 := Lib.hid (hk1.obj HG1.out hne)
  clear he1 hk1 HE1 HK1 HG1
  go_wp2_with fail
  refine (eyeTwo_in HE2.out hs (by omega)).mono ?_
  rintro e w3 ⟨rfl, he1, hk1⟩
  have HE3 := Lib.hid he1
  have HK3 := Lib.hid (HK2.out.trans hk1)
  have HG3 := Lib.hid (hk1.obj HG2.out hne)
  clear he1 hk1 HE2 HK2 HG2
  have c0 : w3.cell? ⟨g, 0, none⟩ = some (.int .u16 0) := HG3.out.cell 0
  have c1 : w3.cell? ⟨g, 1, none⟩ = some (.int .u8 0) := HG3.out.cell 1
  have c2 : w3.cell? ⟨g, 2, none⟩ = some (.int .u16 0) := HG3.out.cell 2
  have f0 : w3.frozen? ⟨g, 0, none⟩ = false := HG3.out.free 0
  have f1 : w3.frozen? ⟨g, 1, none⟩ = false := HG3.out.free 1
  have f2 : w3.frozen? ⟨g, 2, none⟩ = false := HG3.out.free 2
  go_wp2
  have hg9 := ((HG3.out.set 0 (.int .u16 (nb s a 2 : Nat))).set 1 (.int .u8 (nb s (a + 2) 1 : Nat))).set 2 (.int .u16 (nb s (a + 3) 2 : Nat))
  refine bodyPost_ret (res_c rfl _ _ g 45 #[.int .u16 (nb s a 2 : Nat), .int .u8 (nb s (a + 2) 1 : Nat), .int .u16 (nb s (a + 3) 2 : Nat)] (0, 0) _ rfl hg9 Tryd.underlying45 rfl (by kernel_rfl)) rfl ?_
  have hgb : w.heap.size ≤ g := by omega
  refine ⟨rfl, ?_, ?_⟩
  · have := HE3.out
    exact ((this.set_other ⟨g, 0, none⟩ (Ne.symm hne) _).set_other ⟨g, 1, none⟩ (Ne.symm hne) _).set_other ⟨g, 2, none⟩ (Ne.symm hne) _
  · exact ((HK3.out.setCell (p := ⟨g, 0, none⟩) (.inl hgb) _).setCell (p := ⟨g, 1, none⟩) (.inl hgb) _).setCell (p := ⟨g, 2, none⟩) (.inl hgb) _
end
end Go.Proofs.YtmehafolnpkmhaaDoor
