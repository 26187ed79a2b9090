/- Epochs (plain): texts read; the law of reading. -/
import Derived.Test.YthjdepipmghbbaaDoorEpoPure
import Derived.Lib.CountLaws
import Derived.Lib.IndexBytes
import Derived.Lib.SplitLaws
namespace Go.Proofs.YthjdepipmghbbaaDoor.PEpq
open Go.RowKit Go.Proofs.YthjdepipmghbbaaDoorW.PrintWords Go.Proofs.YthjdepipmghbbaaDoorW.PrintLast
/-! ### 1. A text in parts -/
theorem idx_none : ∀ (l : List UInt8), (∀ b ∈ l, b ≠ 46) → Lib.indexByte l 46 = -1
  | [], _ => rfl
  | b :: l, h => by
    unfold Lib.indexByte
    have hb : (b == 46) = false := by simpa using h b (by simp)
    rw [hb, idx_none l (fun x hx => h x (by simp [hx]))]
    rfl
theorem idx_at : ∀ (l r : List UInt8), (∀ b ∈ l, b ≠ 46) → Lib.indexByte (l ++ 46 :: r) 46 = (l.length : Int)
  | [], r, _ => by unfold Lib.indexByte; simp
  | b :: l, r, h => by
    have ih := idx_at l r (fun x hx => h x (by simp [hx]))
    have hb : (b == 46) = false := by simpa using h b (by simp)
    simp only [List.cons_append]
    unfold Lib.indexByte
    rw [hb, ih]
    have : ((l.length : Int) == -1) = false := by simp
    rw [this]
    simp
theorem parts_of (A B C : List UInt8) (hA : ∀ b ∈ A, b ≠ 46) (hB : ∀ b ∈ B, b ≠ 46) (hC : ∀ b ∈ C, b ≠ 46) (s : ByteArray) (hs : s.data.toList = A ++ 46 :: (B ++ 46 :: C)) :
    partsOf s = [⟨A.toArray⟩, ⟨B.toArray⟩, ⟨C.toArray⟩] := by
  have i1 : Lib.index (A ++ 46 :: (B ++ 46 :: C)) [46] = (A.length : Int) := by rw [Lib.index_one, idx_at A _ hA]
  have i2 : Lib.index (B ++ 46 :: C) [46] = (B.length : Int) := by rw [Lib.index_one, idx_at B _ hB]
  have i3 : Lib.index C [46] = -1 := by rw [Lib.index_one, idx_none C hC]
  have d1 : (A ++ 46 :: (B ++ 46 :: C)).drop (A.length + 1) = B ++ 46 :: C := by rw [← List.drop_drop]; simp
  have d2 : (B ++ 46 :: C).drop (B.length + 1) = C := by rw [← List.drop_drop]; simp
  have hcnt : Lib.countB s (⟨#[46]⟩ : ByteArray) = 2 := by
    show Lib.count s.data.toList [46] = 2
    rw [hs, Lib.count_hit (by simp) i1]
    simp only [List.length_singleton]
    rw [d1, Lib.count_hit (by simp) i2]
    simp only [List.length_singleton]
    rw [d2, Lib.count_miss i3]
  have hk : (partsOf s).map (·.data.toList) = [A, B, C] := by
    unfold partsOf
    rw [hcnt, Lib.splitB_data, hs]
    show Lib.splitK [46] 0 2 _ = _
    simp only [Lib.splitK]
    rw [i1]
    have n1 : ((A.length : Int) == -1) = false := by simp
    have n2 : ((B.length : Int) == -1) = false := by simp
    rw [n1]
    simp only [Bool.false_eq_true, if_false, Int.toNat_natCast, List.length_singleton, Nat.add_zero]
    rw [d1, i2, n2]
    simp only [Bool.false_eq_true, if_false, Int.toNat_natCast]
    rw [d2]
    simp
  match hp : partsOf s, hk with
  | [p, q, r], hk =>
    simp only [List.map_cons, List.map_nil, List.cons.injEq, and_true] at hk
    obtain ⟨h1, h2, h3⟩ := hk
    have ext : ∀ (t : ByteArray) (l : List UInt8), t.data.toList = l → t = ⟨l.toArray⟩ := by
      intro t l h
      apply ByteArray.ext
      apply Array.toList_inj.1
      simpa using h
    rw [ext p A h1, ext q B h2, ext r C h3]
/-! ### 2. Digits -/
theorem dec_digits : ∀ (k n : Nat), n < 10 ^ (k + 1) → ∀ b ∈ Lib.decDigits n, 48 ≤ b.toNat ∧ b.toNat ≤ 57
  | 0, n, h, b, hb => by
    rw [Lib.decDigits_one (by omega)] at hb
    obtain rfl := List.mem_singleton.1 hb
    have : (UInt8.ofNat (48 + n)).toNat = 48 + n := by simp [UInt8.toNat_ofNat']; omega
    omega
  | k + 1, n, h, b, hb => by
    rw [Lib.decDigits] at hb
    split at hb
    · obtain rfl := List.mem_singleton.1 hb
      have : (UInt8.ofNat (48 + n)).toNat = 48 + n := by simp [UInt8.toNat_ofNat']; omega
      omega
    · rcases List.mem_append.1 hb with hb | hb
      · exact dec_digits k (n / 10) (by rw [Nat.pow_succ] at h; omega) b hb
      · obtain rfl := List.mem_singleton.1 hb
        have : (UInt8.ofNat (48 + n % 10)).toNat = 48 + n % 10 := by simp [UInt8.toNat_ofNat']; omega
        omega
theorem dec_no_point (n : Nat) (h : n ≤ 65535) : ∀ b ∈ Lib.decDigits n, b ≠ 46 := by
  intro b hb he
  subst he
  have := dec_digits 4 n (by omega) 46 hb
  have h2 : (46 : UInt8).toNat = 46 := rfl
  omega
theorem parse_append (M d : Nat) (hd : d < 10) : ∀ (l : List UInt8) (acc u : Nat), Lib.parseUintM M acc l = .ok u → u < 1844674407370955162 → u * 10 + d ≤ M → Lib.parseUintM M acc (l ++ [UInt8.ofNat (48 + d)]) = .ok (u * 10 + d)
  | [], acc, u, h, hu, hM => by
    simp only [Lib.parseUintM] at h
    injection h with h
    subst h
    have hb : (UInt8.ofNat (48 + d)).toNat = 48 + d := by simp [UInt8.toNat_ofNat']; omega
    simp only [List.nil_append, Lib.parseUintM]
    rw [hb, if_pos (by omega), if_neg (by omega), if_neg (by omega)]
    congr 1
    omega
  | c :: l, acc, u, h, hu, hM => by
    simp only [List.cons_append, Lib.parseUintM] at h ⊢
    split at h
    · next h1 =>
      rw [if_pos h1]
      split at h
      · cases h
      · next h2 =>
        rw [if_neg h2]
        split at h
        · cases h
        · next h3 =>
          rw [if_neg h3]
          exact parse_append M d hd l _ u h hu hM
    · cases h
theorem parse_dec (M : Nat) : ∀ (k n : Nat), n < 10 ^ (k + 1) → n ≤ 65535 → n ≤ M → Lib.parseUintM M 0 (Lib.decDigits n) = .ok n
  | 0, n, h, h2, hM => by
    rw [Lib.decDigits_one (by omega)]
    have := parse_append M n (by omega) [] 0 0 rfl (by omega) (by omega)
    simpa using this
  | k + 1, n, h, h2, hM => by
    by_cases h10 : n < 10
    · exact parse_dec M 0 n (by omega) h2 hM
    · rw [Lib.decDigits, dif_neg h10]
      have := parse_append M (n % 10) (by omega) _ 0 (n / 10) (parse_dec M k (n / 10) (by rw [Nat.pow_succ] at h; omega) (by omega) (by omega)) (by omega) (by omega)
      rw [this]
      congr 1
      omega
theorem dec_ne (n : Nat) : Lib.decDigits n ≠ [] := by
  rw [Lib.decDigits]
  split <;> simp
theorem num_it (B n : Nat) (hB : n ≤ 2 ^ B - 1) (h : n ≤ 65535) : numOf B (it (n : Int)) = some n := by
  unfold numOf Lib.parseUintB
  rw [it_nat]
  have : (⟨(Lib.decDigits n).toArray⟩ : ByteArray).data.toList = Lib.decDigits n := by simp
  rw [this, if_neg (dec_ne n), parse_dec _ 4 n (by omega) h hB]
/-! ### 3. The program's Read -/
theorem txt_data (c a i : Nat) : (txt c a i).data.toList = Lib.decDigits c ++ 46 :: (Lib.decDigits a ++ 46 :: Lib.decDigits i) := by
  unfold txt
  rw [it_nat, it_nat, it_nat]
  simp [ByteArray.data_append]
theorem txt_size (c a i : Int) (hc : In16 c) (ha : In8 a) (hi : In16 i) : (txt c a i).size ≤ 17 := by
  have s1 := it_size c hc.1 hc.2
  have s2 := it_size a ha.1 (by omega)
  have s3 := it_size i hi.1 hi.2
  have hp : (⟨#[46]⟩ : ByteArray).size = 1 := rfl
  unfold txt
  simp only [ByteArray.size_append]
  omega
theorem read_txt (c a i : Int) (hc : In16 c) (ha : In8 a) (hi : In16 i) : epoch_Read.f (txt c a i) = some (c, a, i, true) := by
  obtain ⟨c, rfl⟩ := Int.eq_ofNat_of_zero_le hc.1
  obtain ⟨a, rfl⟩ := Int.eq_ofNat_of_zero_le ha.1
  obtain ⟨i, rfl⟩ := Int.eq_ofNat_of_zero_le hi.1
  have hs := txt_size c a i hc ha hi
  have hc2 : c ≤ 65535 := by have := hc.2; omega
  have ha2 : a ≤ 255 := by have := ha.2; omega
  have hi2 : i ≤ 65535 := by have := hi.2; omega
  have hp := parts_of _ _ _ (dec_no_point c hc2) (dec_no_point a (by omega)) (dec_no_point i hi2) (txt c a i) (txt_data c a i)
  rw [← it_nat, ← it_nat, ← it_nat] at hp
  have ht := text_eq c a i hc ha hi
  show readF _ = _
  unfold readF
  rw [if_pos (by omega), hp]
  simp only [num_it 16 c (by omega) hc2, num_it 8 a (by omega) (by omega), num_it 16 i (by omega) hi2]
  rw [text_same]
  refine (congrArg (fun x => Option.bind x _) ht).trans ?_
  rw [Option.bind_some, if_pos rfl]
/-- What either Read makes of a text: nothing, or an epoch whose text it is. -/
def Good (s : ByteArray) (r : Int × Int × Int × Bool) : Prop := r = (0, 0, 0, false) ∨ ∃ c a i, In16 c ∧ In8 a ∧ In16 i ∧ txt c a i = s ∧ r = (c, a, i, true)
theorem toList_inj {s t : ByteArray} (h : s.toList = t.toList) : s = t := by
  rw [ByteArray.toList_eq, ByteArray.toList_eq] at h
  apply ByteArray.ext
  exact Array.toList_inj.1 h
theorem read_good (s : ByteArray) (hs : s.size ≤ 1000) : ∃ r, epoch_Read.f s = some r ∧ Good s r := by
  show ∃ r, readF s = some r ∧ _
  unfold readF
  rw [if_pos hs]
  split
  · next p q r hL =>
    rcases h1 : numOf 16 p with _ | c
    · exact ⟨_, rfl, .inl rfl⟩
    · rcases h2 : numOf 8 q with _ | a
      · exact ⟨_, rfl, .inl rfl⟩
      · rcases h3 : numOf 16 r with _ | i
        · exact ⟨_, rfl, .inl rfl⟩
        · have b1 : c ≤ 65535 := numOf_bd 16 (.inr rfl) p c h1
          have b2 : a ≤ 255 := numOf_bd 8 (.inl rfl) q a h2
          have b3 : i ≤ 65535 := numOf_bd 16 (.inr rfl) r i h3
          have hc : In16 (c : Int) := by constructor <;> omega
          have ha : In8 (a : Int) := by constructor <;> omega
          have hi : In16 (i : Int) := by constructor <;> omega
          simp only
          rw [text_same, text_eq c a i hc ha hi, Option.bind_some]
          by_cases ht : (txt c a i).toList = s.toList
          · rw [if_pos ht]
            exact ⟨_, rfl, .inr ⟨c, a, i, hc, ha, hi, toList_inj ht, rfl⟩⟩
          · rw [if_neg ht]
            exact ⟨_, rfl, .inl rfl⟩
  · exact ⟨_, rfl, .inl rfl⟩
/-! ### 4. The document's Read -/
/-- One byte more. -/
def stepR (ns : List Int) (b : UInt8) : List Int :=
  if b = 46 then ns ++ [0] else if 48 ≤ b.toNat ∧ b.toNat ≤ 57 ∧ ns.getLastD 0 < 100000 then ns.dropLast ++ [ns.getLastD 0 * 10 + (b.toNat : Int) - 48] else ns
def scanR (ns : List Int) (l : List UInt8) : List Int := l.foldl stepR ns
structure Sane (ns : List Int) : Prop where
  ne : ns ≠ []
  bd : ∀ n ∈ ns, 0 ≤ n ∧ n ≤ 1000000
theorem sane_last {ns : List Int} (h : Sane ns) : 0 ≤ ns.getLastD 0 ∧ ns.getLastD 0 ≤ 1000000 := by
  have : ns.getLastD 0 ∈ ns := by
    rw [List.getLastD_eq_getLast?, List.getLast?_eq_some_getLast h.ne]
    exact List.getLast_mem h.ne
  exact h.bd _ this
theorem sane_step {ns : List Int} (h : Sane ns) (b : UInt8) : Sane (stepR ns b) ∧ (stepR ns b).length ≤ ns.length + 1 := by
  have hl := sane_last h
  unfold stepR
  split
  · refine ⟨⟨by simp, fun n hn => ?_⟩, by simp⟩
    rcases List.mem_append.1 hn with hn | hn
    · exact h.bd n hn
    · simp at hn; omega
  · split
    · next h1 =>
      refine ⟨⟨by simp, fun n hn => ?_⟩, by simp <;> omega⟩
      rcases List.mem_append.1 hn with hn | hn
      · exact h.bd n (List.dropLast_subset _ hn)
      · have := List.mem_singleton.1 hn
        omega
    · exact ⟨h, by omega⟩
theorem last_at {ns : List Int} (h : ns ≠ []) : rd ns ((ns.length : Int) - 1) = ns.getLastD 0 := by
  unfold rd
  have hp : 0 < ns.length := List.length_pos_iff.2 h
  have e : ((ns.length : Int) - 1).toNat = ns.length - 1 := by omega
  rw [e, List.getLastD_eq_getLast?, List.getLast?_eq_getElem?]
  simp [List.getD_eq_getElem?_getD]
theorem set_last {ns : List Int} (h : ns ≠ []) (x : Int) : ns.set ((ns.length : Int) - 1).toNat x = ns.dropLast ++ [x] := by
  have hp : 0 < ns.length := List.length_pos_iff.2 h
  have e : ((ns.length : Int) - 1).toNat = ns.length - 1 := by omega
  rw [e]
  conv => lhs; rw [← List.dropLast_concat_getLast h]
  rw [List.set_append_right _ _ (by simp)]
  simp
theorem bt_nat (s : ByteArray) (i : Nat) (h : i < s.data.toList.length) : bt s (i : Int) = ((s.data.toList[i]).toNat : Int) := by
  unfold bt
  have h2 : i < s.size := by simpa using h
  rw [dif_pos (by simpa using h2)]
  simp [ByteArray.getElem_eq_getElem_data]
/-- What stands at the end. -/
def finR (k : Nat) (s : ByteArray) (ns : List Int) : Option (Int × Int × Int × Bool) := fuglemanref03_Read.l0 (k + 1) s ns (s.size : Int)
theorem scan_loop (s : ByteArray) (hs : s.size ≤ 60) (K : Nat) : ∀ (d i : Nat) (ns : List Int), i + d = s.size → Sane ns → ns.length ≤ i + 1 →
    fuglemanref03_Read.l0 (K + d + 1) s ns (i : Int) = finR K s (scanR ns (s.data.toList.drop i))
  | 0, i, ns, hi, _, _ => by
    have e : s.data.toList.drop i = [] := List.drop_eq_nil_of_le (by simp; have : s.data.size = s.size := rfl; omega)
    rw [e]
    have : i = s.size := by omega
    subst this
    rfl
  | d + 1, i, ns, hi, hS, hl => by
    have hlt : i < s.data.toList.length := by simp; have : s.data.size = s.size := rfl; omega
    have hd : s.data.toList.drop i = s.data.toList[i] :: s.data.toList.drop (i + 1) := List.drop_eq_getElem_cons hlt
    have hb := bt_nat s i hlt
    have ih := fun ns' h1 h2 => scan_loop s hs K d (i + 1) ns' (by omega) h1 h2
    rw [hd]
    generalize s.data.toList[i] = b at *
    have hb8 : b.toNat < 256 := b.toNat_lt
    have hw : wrap64 (bt s (i : Int)) = (b.toNat : Int) := by rw [hb]; exact w64n _ (by omega) (by omega)
    have hw1 : wrap64 ((i : Int) + 1) = ((i + 1 : Nat) : Int) := by rw [w64n _ (by omega) (by omega)]; omega
    have hp : 0 < ns.length := List.length_pos_iff.2 hS.ne
    have hwl : wrap64 ((ns.length : Int) - 1) = (ns.length : Int) - 1 := w64n _ (by omega) (by omega)
    have hlast := sane_last hS
    have hst := sane_step hS b
    show fuglemanref03_Read.l0 (K + d + 1 + 1) s ns (i : Int) = finR K s (scanR (stepR ns b) (s.data.toList.drop (i + 1)))
    rw [← ih (stepR ns b) hst.1 (by have := hst.2; omega)]
    conv => lhs; rw [fuglemanref03_Read.l0]
    rw [if_pos (by omega), if_pos (by omega), hw, hw1, hwl, last_at hS.ne]
    unfold stepR
    by_cases h46 : b = 46
    · subst h46
      rw [if_pos (by rfl), if_pos (by omega), if_pos rfl]
    · have h46n : ¬ ((b.toNat : Int) = 46) := by
        intro h
        apply h46
        apply UInt8.toNat_inj.1
        have : (46 : UInt8).toNat = 46 := rfl
        omega
      rw [if_neg h46n, if_neg h46]
      by_cases h1 : 48 ≤ b.toNat
      · rw [if_pos (by omega)]
        by_cases h2 : b.toNat ≤ 57
        · rw [if_pos (by omega), if_pos (by omega), if_pos (by omega)]
          by_cases h3 : ns.getLastD 0 < 100000
          · rw [if_pos h3, if_pos ⟨h1, h2, h3⟩]
            rw [w64i (ns.getLastD 0 * 10) (by omega) (by omega), w64i (ns.getLastD 0 * 10 + (b.toNat : Int)) (by omega) (by omega), w64i _ (by omega) (by omega), set_last hS.ne]
          · rw [if_neg h3, if_neg (by omega)]
        · rw [if_neg (by omega), if_neg (by omega)]
      · rw [if_neg (by omega), if_neg (by omega)]
theorem scan_sane : ∀ (l : List UInt8) (ns : List Int), Sane ns → Sane (scanR ns l)
  | [], _, h => h
  | b :: l, ns, h => scan_sane l _ (sane_step h b).1
theorem scan_append (ns : List Int) (l m : List UInt8) : scanR ns (l ++ m) = scanR (scanR ns l) m := List.foldl_append ..
theorem wrap16 (n : Int) (h : In16 n) : IntKind.u16.wrap n = n := by
  have : IntKind.u16.wrap n = n % 65536 := by simp [IntKind.wrap, IntKind.bits, IntKind.signed]
  rw [this]; omega
theorem fin_three (k : Nat) (s : ByteArray) (x y z : Int) (hx : In16 x) (hy : In8 y) (hz : In16 z) : finR (k + 7) s [x, y, z] = some (if (txt x y z).toList = s.toList then (x, y, z, true) else (0, 0, 0, false)) := by
  have h0 : rd [x, y, z] 0 = x := rfl
  have h1 : rd [x, y, z] 1 = y := rfl
  have h2 : rd [x, y, z] 2 = z := rfl
  unfold finR
  rw [fuglemanref03_Read.l0]
  rw [if_neg (by omega), if_pos (by rfl), if_pos (by simp), h0, if_neg (by omega), if_pos (by simp), h1, if_neg (by omega), if_pos (by simp), h2, decide_eq_false (by omega)]
  rw [fuglemanref03_Read.j1]
  rw [if_neg (by decide), if_pos (by simp), if_pos (by simp), if_pos (by simp), h0, h1, h2, wrap16 x hx, wrap16 z hz, show y % 256 = y by omega, rtext_eq x y z k hx hy hz, Option.bind_some]
  split <;> rfl
theorem fin_good (k : Nat) (s : ByteArray) (ns : List Int) (h : Sane ns) : ∃ r, finR (k + 7) s ns = some r ∧ Good s r := by
  by_cases h3 : ns.length = 3
  · match ns, h3 with
    | [x, y, z], _ =>
    have hx := h.bd x (by simp)
    have hy := h.bd y (by simp)
    have hz := h.bd z (by simp)
    by_cases h0 : x > 65535 ∨ y > 255 ∨ z > 65535
    · refine ⟨(0, 0, 0, false), ?_, .inl rfl⟩
      have r0 : rd [x, y, z] 0 = x := rfl
      have r1 : rd [x, y, z] 1 = y := rfl
      have r2 : rd [x, y, z] 2 = z := rfl
      have hj : fuglemanref03_Read.j1 (k + 7) s [x, y, z] true = some (0, 0, 0, false) := by
        rw [fuglemanref03_Read.j1, if_pos rfl]
      unfold finR
      rw [fuglemanref03_Read.l0]
      rw [if_neg (by omega), if_pos (by rfl), if_pos (by simp), r0, if_pos (show (1 : Int) < (([x, y, z] : List Int).length : Int) by simp), r1, if_pos (show (2 : Int) < (([x, y, z] : List Int).length : Int) by simp), r2]
      by_cases c0 : x > 65535
      · rw [if_pos c0, hj]
      · rw [if_neg c0]
        by_cases c1 : y > 255
        · rw [if_pos c1, hj]
        · rw [if_neg c1, decide_eq_true (by omega), hj]
    · have hx2 : In16 x := by constructor <;> omega
      have hy2 : In8 y := by constructor <;> omega
      have hz2 : In16 z := by constructor <;> omega
      refine ⟨_, fin_three k s x y z hx2 hy2 hz2, ?_⟩
      split
      · next ht => exact .inr ⟨x, y, z, hx2, hy2, hz2, toList_inj ht, rfl⟩
      · exact .inl rfl
  · refine ⟨(0, 0, 0, false), ?_, .inl rfl⟩
    unfold finR
    rw [fuglemanref03_Read.l0]
    rw [if_neg (by omega), if_neg (by omega), fuglemanref03_Read.j1, if_pos rfl]
theorem rread_eq (s : ByteArray) (hs : s.size ≤ 60) (k : Nat) : fuglemanref03_Read.f (k + s.size + 1) s = finR k s (scanR [0] s.data.toList) := by
  unfold fuglemanref03_Read.f
  have := scan_loop s hs k s.size 0 [0] (by omega) ⟨by simp, by simp⟩ (by simp)
  rw [List.drop_zero] at this
  exact this
/-- The digits of a number, behind a nought. -/
theorem scan_dec : ∀ (k n : Nat) (pre : List Int), n < 10 ^ (k + 1) → n ≤ 65535 → scanR (pre ++ [0]) (Lib.decDigits n) = pre ++ [(n : Int)]
  | 0, n, pre, h, h2 => by
    rw [Lib.decDigits_one (by omega)]
    have hb : (UInt8.ofNat (48 + n)).toNat = 48 + n := by simp [UInt8.toNat_ofNat']; omega
    have hne : UInt8.ofNat (48 + n) ≠ 46 := by
      intro he
      have := congrArg UInt8.toNat he
      rw [hb] at this
      have h3 : (46 : UInt8).toNat = 46 := rfl
      omega
    show stepR (pre ++ [0]) (UInt8.ofNat (48 + n)) = _
    unfold stepR
    rw [if_neg hne, hb]
    have hl : (pre ++ [(0 : Int)]).getLastD 0 = 0 := by simp [List.getLastD_eq_getLast?]
    rw [hl, if_pos ⟨by omega, by omega, by decide⟩]
    simp
    omega
  | k + 1, n, pre, h, h2 => by
    by_cases h10 : n < 10
    · exact scan_dec 0 n pre (by omega) h2
    · rw [Lib.decDigits, dif_neg h10, scan_append, scan_dec k (n / 10) pre (by rw [Nat.pow_succ] at h; omega) (by omega)]
      have hb : (UInt8.ofNat (48 + n % 10)).toNat = 48 + n % 10 := by simp [UInt8.toNat_ofNat']; omega
      have hne : UInt8.ofNat (48 + n % 10) ≠ 46 := by
        intro he
        have := congrArg UInt8.toNat he
        rw [hb] at this
        have h3 : (46 : UInt8).toNat = 46 := rfl
        omega
      show stepR (pre ++ [((n / 10 : Nat) : Int)]) (UInt8.ofNat (48 + n % 10)) = _
      unfold stepR
      rw [if_neg hne, hb]
      have hl : (pre ++ [((n / 10 : Nat) : Int)]).getLastD 0 = ((n / 10 : Nat) : Int) := by simp [List.getLastD_eq_getLast?]
      rw [hl, if_pos ⟨by omega, by omega, by omega⟩]
      simp
      omega
theorem scan_point (ns : List Int) (l : List UInt8) : scanR ns (46 :: l) = scanR (ns ++ [0]) l := by
  show scanR (stepR ns 46) l = _
  unfold stepR
  rw [if_pos rfl]
theorem rread_txt (c a i : Int) (hc : In16 c) (ha : In8 a) (hi : In16 i) (k : Nat) : fuglemanref03_Read.f (k + 7 + (txt c a i).size + 1) (txt c a i) = some (c, a, i, true) := by
  obtain ⟨c, rfl⟩ := Int.eq_ofNat_of_zero_le hc.1
  obtain ⟨a, rfl⟩ := Int.eq_ofNat_of_zero_le ha.1
  obtain ⟨i, rfl⟩ := Int.eq_ofNat_of_zero_le hi.1
  have hs := txt_size c a i hc ha hi
  have hc2 : c ≤ 65535 := by have := hc.2; omega
  have ha2 : a ≤ 255 := by have := ha.2; omega
  have hi2 : i ≤ 65535 := by have := hi.2; omega
  rw [rread_eq _ (by omega), txt_data]
  have e1 := scan_dec 4 c [] (by omega) hc2
  rw [List.nil_append, List.nil_append] at e1
  rw [scan_append, e1, scan_point, scan_append, scan_dec 4 a [(c : Int)] (by omega) (by omega), scan_point, scan_dec 4 i ([(c : Int)] ++ [(a : Int)]) (by omega) hi2]
  have := fin_three k (txt c a i) c a i hc ha hi
  rw [if_pos rfl] at this
  exact this
/-! ### 5. The law -/
theorem read_law (s : ByteArray) (c a i : Int) (hc : In16 c) (ha : In8 a) (hi : In16 i) : ∃ k, fuglemanlaw03_EpochReads.f k s c a i = some true := by
  refine ⟨7 + s.size + 1 + 10, ?_⟩
  unfold fuglemanlaw03_EpochReads.f
  rw [awake_eq, Option.bind_some, if_pos rfl]
  by_cases hs : (s.size : Int) > 60
  · rw [if_pos hs]
  · rw [if_neg hs]
    have hs2 : s.size ≤ 60 := by omega
    have key : ∃ r : Int × Int × Int × Bool, epoch_Read.f s = some r ∧ fuglemanref03_Read.f (7 + s.size + 1 + 10) s = some r := by
      by_cases hT : ∃ c a i, In16 c ∧ In8 a ∧ In16 i ∧ txt c a i = s
      · obtain ⟨c, a, i, hc, ha, hi, rfl⟩ := hT
        refine ⟨_, read_txt c a i hc ha hi, ?_⟩
        have := rread_txt c a i hc ha hi 10
        rw [show 10 + 7 + (txt c a i).size + 1 = 7 + (txt c a i).size + 1 + 10 by omega] at this
        exact this
      · obtain ⟨r, h1, h2⟩ := read_good s (by omega)
        have h3 := rread_eq s hs2 (10 + 7)
        obtain ⟨r', h4, h5⟩ := fin_good 10 s (scanR [0] s.data.toList) (scan_sane _ _ ⟨by simp, by simp⟩)
        rw [h4, show 10 + 7 + s.size + 1 = 7 + s.size + 1 + 10 by omega] at h3
        have e1 : r = (0, 0, 0, false) := by
          rcases h2 with h2 | ⟨c, a, i, hc, ha, hi, ht, _⟩
          · exact h2
          · exact absurd ⟨c, a, i, hc, ha, hi, ht⟩ hT
        have e2 : r' = (0, 0, 0, false) := by
          rcases h5 with h5 | ⟨c, a, i, hc, ha, hi, ht, _⟩
          · exact h5
          · exact absurd ⟨c, a, i, hc, ha, hi, ht⟩ hT
        exact ⟨_, by rw [h1, e1], by rw [h3, e2]⟩
    obtain ⟨r, h1, h2⟩ := key
    rw [h1, Option.bind_some, h2, Option.bind_some, text_eq c a i hc ha hi, Option.bind_some, read_txt c a i hc ha hi, Option.bind_some]
    simp
end Go.Proofs.YthjdepipmghbbaaDoor.PEpq
