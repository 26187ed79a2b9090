/- Programs as bytes (plain): the bytes of the document, and that they are read back. -/
import Derived.Test.YtclbmgnpgjhlhaaCodePure
namespace Go.Proofs.Ytclbmgnpgjhlhaa.PCode
open Go.RowKit Go.Proofs.YtclbmgnpgjhlhaaW.PrintWords Go.Proofs.YtclbmgnpgjhlhaaW.PrintLast
theorem bsize (L : List UInt8) : (⟨L.toArray⟩ : ByteArray).size = L.length := by simp [ByteArray.size]
theorem bytes1 (a : Int) : fuglemanref02_Bytes.f (a % 4294967296) 1 = some ⟨#[u8of a]⟩ := by
  unfold fuglemanref02_Bytes.f
  rw [if_pos (by omega)]
  exact congrArg some (u8of_bts a)
theorem bytes4 (a : Int) : fuglemanref02_Bytes.f (a % 4294967296) 4 = some ⟨(Oct.bts (a % 4294967296).toNat 4).toArray⟩ := by
  unfold fuglemanref02_Bytes.f
  rw [if_pos (by omega)]
  rfl
theorem plain_loop (l : List II) (h : ∀ x ∈ l, inI x) (hl : l.length ≤ 1000) : ∀ (d i k : Nat), d = l.length - i → i ≤ l.length → 2 * d < k →
    fuglemanref13_Plain.l0 k l ⟨(UInt8.ofNat (l.length % 256) :: (l.take i).flatMap insB).toArray⟩ (i : Int) = some ⟨(plainB l).toArray⟩
  | 0, i, k, hd, hi, hk => by
    obtain ⟨k, rfl⟩ : ∃ m, k = m + 1 := ⟨k - 1, by omega⟩
    have e : i = l.length := by omega
    simp only [fuglemanref13_Plain.l0]
    rw [if_neg (by omega), e, List.take_length]
    rfl
  | d + 1, i, k, hd, hi, hk => by
    obtain ⟨k, rfl⟩ : ∃ m, k = m + 2 := ⟨k - 2, by omega⟩
    have hlt : i < l.length := by omega
    have ih := plain_loop l h hl d (i + 1) k (by omega) (by omega) (by omega)
    have hx := h _ (List.getElem_mem hlt)
    have hlen : (UInt8.ofNat (l.length % 256) :: (l.take i).flatMap insB).length ≤ 8001 := by
      rw [List.length_cons, insBs_length, List.length_take]; omega
    have hst : (UInt8.ofNat (l.length % 256) :: (l.take (i + 1)).flatMap insB) = (UInt8.ofNat (l.length % 256) :: (l.take i).flatMap insB) ++ insB l[i] := by
      rw [List.take_succ_eq_append_getElem hlt, List.flatMap_append]; simp
    have key : ∀ n : Int, n % 4294967296 = l[i].f4 % 4294967296 → fuglemanref13_Plain.j1 (k + 1) l ⟨(UInt8.ofNat (l.length % 256) :: (l.take i).flatMap insB).toArray⟩ (i : Int) n l[i].f0 l[i].f1 l[i].f2 l[i].f3 l[i].f4 = some ⟨(plainB l).toArray⟩ := by
      intro n hn
      simp only [fuglemanref13_Plain.j1]
      rw [hst] at ih
      generalize UInt8.ofNat (l.length % 256) :: (l.take i).flatMap insB = L at *
      generalize l[i] = x at *
      have b4 : (Oct.bts (x.f4 % 4294967296).toNat 4).length = 4 := Oct.bts_length _ _
      have s1 : ∀ c : UInt8, (⟨#[c]⟩ : ByteArray).size = 1 := fun _ => rfl
      simp only [bytes1, hn, bytes4, Option.bind_some, ByteArray.size_append, s1, bsize, b4]
      rw [if_pos (by omega), if_pos (by omega), if_pos (by omega), if_pos (by omega), if_pos (by omega), w64 (by omega), show ((i : Int) + 1) = ((i + 1 : Nat) : Int) by omega, ← ih]
      congr 1
      apply ext_bytes
      simp [insB, ByteArray.data_append]
    show fuglemanref13_Plain.l0 (k + 1 + 1) l _ (i : Int) = _
    simp only [fuglemanref13_Plain.l0]
    rw [if_pos (by omega), if_pos (by omega), rd_at l i hlt]
    split
    · exact key _ (by have := hx.2.2.2.2; rw [w64 (by omega)]; omega)
    · exact key _ rfl
theorem plain_eq (l : List II) (h : ∀ x ∈ l, inI x) (hl : l.length ≤ 200) (k : Nat) (hk : 2 * l.length < k) : fuglemanref13_Plain.f k l = some ⟨(plainB l).toArray⟩ := by
  unfold fuglemanref13_Plain.f
  rw [bytes1, Option.bind_some]
  have := plain_loop l h (by omega) _ 0 k rfl (Nat.zero_le _) (by omega)
  have e : u8of (l.length : Int) = UInt8.ofNat (l.length % 256) := by unfold u8of; congr 1
  rw [e]
  exact this
/-! ### Read again -/
theorem take_at (L M R : List UInt8) (S : ByteArray) (hS : S = ⟨(L ++ (M ++ R)).toArray⟩) :
    Oct.take S L.length false (M.length : Int) = (⟨M.toArray⟩, L.length + M.length, false) := by
  subst hS
  unfold Oct.take
  have hsz : (⟨(L ++ (M ++ R)).toArray⟩ : ByteArray).size = L.length + (M.length + R.length) := by
    show (L ++ (M ++ R)).toArray.size = _
    simp
  rw [if_neg (by rw [hsz]; simp; omega)]
  refine Prod.ext ?_ (Prod.ext (by simp) rfl)
  apply ext_bytes
  rw [ByteArray.data_extract, Array.toList_extract]
  simp [List.extract]
theorem byte_at (L R : List UInt8) (c : UInt8) (S : ByteArray) (hS : S = ⟨(L ++ (c :: R)).toArray⟩) (hz : L.length + R.length ≤ 100000) :
    octets_Eye_Byte.f S (L.length : Int) false = some ((c.toNat : Int), S, ((L.length + 1 : Nat) : Int), false) := by
  have ht := take_at L [c] R S (by simpa using hS)
  have hsz : S.size = L.length + (R.length + 1) := by rw [hS, bsize]; simp
  unfold octets_Eye_Byte.f
  rw [if_pos (by unfold maxLen; omega), Int.toNat_natCast]
  rw [show ((1 : Int)) = (([c] : List UInt8).length : Int) from rfl, ht]
  have hc : Oct.num ([c] : List UInt8) = c.toNat := by
    have := UInt8.toNat_lt c
    simp [Oct.num]
  simp only [List.length_singleton]
  rw [hc, Nat.mod_eq_of_lt (UInt8.toNat_lt c)]
theorem four_at (L R : List UInt8) (n : Nat) (hn : n < 4294967296) (S : ByteArray) (hS : S = ⟨(L ++ (Oct.bts n 4 ++ R)).toArray⟩) (hz : L.length + R.length ≤ 100000) :
    octets_Eye_Four.f S (L.length : Int) false = some ((n : Int), S, ((L.length + 4 : Nat) : Int), false) := by
  have b4 : (Oct.bts n 4).length = 4 := Oct.bts_length _ _
  have ht := take_at L (Oct.bts n 4) R S hS
  have hsz : S.size = L.length + (4 + R.length) := by rw [hS, bsize]; simp [b4]
  rw [b4] at ht
  unfold octets_Eye_Four.f
  rw [if_pos (by unfold maxLen; omega), Int.toNat_natCast]
  rw [show ((4 : Int)) = ((4 : Nat) : Int) from rfl, ht]
  have hc : Oct.num (Oct.bts n 4) = n := by
    simp [Oct.num, Oct.bts]
    omega
  dsimp only
  rw [hc]
theorem u8of_nat (a : Int) (h : 0 ≤ a ∧ a ≤ 255) : ((u8of a).toNat : Int) = a := by
  unfold u8of
  rw [UInt8.toNat_ofNat']
  omega
theorem isK_lo {k : Int} {v : Int} (h : isK (kN k) v = true) : 1 ≤ k ∧ k ≤ 7 ∧ (k = 7 → 0 ≤ v ∧ v ≤ 4294967295) ∧ (k ≠ 7 → -2147483648 ≤ v ∧ v ≤ 2147483647) := by
  rw [isK_range] at h
  have h := of_decide_eq_true h
  rcases kN_cases k with rfl | rfl | rfl | rfl | rfl | rfl | rfl | ⟨hk, h0⟩
  · rw [show kN 1 = 1 from rfl] at h; simp only [leastK, manyK] at h; omega
  · rw [show kN 2 = 2 from rfl] at h; simp only [leastK, manyK] at h; omega
  · rw [show kN 3 = 3 from rfl] at h; simp only [leastK, manyK] at h; omega
  · rw [show kN 4 = 4 from rfl] at h; simp only [leastK, manyK] at h; omega
  · rw [show kN 5 = 5 from rfl] at h; simp only [leastK, manyK] at h; omega
  · rw [show kN 6 = 6 from rfl] at h; simp only [leastK, manyK] at h; omega
  · rw [show kN 7 = 7 from rfl] at h; simp only [leastK, manyK] at h; omega
  · exact absurd h0 h.1
theorem sizeK_lo {k : Int} (h : 0 < sizeK (kN k)) : 1 ≤ k ∧ k ≤ 7 := by
  rcases kN_cases k with rfl | rfl | rfl | rfl | rfl | rfl | rfl | ⟨hk, h0⟩
  all_goals first | omega | (rw [h0] at h; simp [sizeK] at h)
/-- An instruction that may be: its numbers are small. -/
theorem okB_lo (x : II) (h : okB x = true) : (0 ≤ x.f0 ∧ x.f0 ≤ 36) ∧ (0 ≤ x.f1 ∧ x.f1 ≤ 7) ∧ (0 ≤ x.f2 ∧ x.f2 ≤ 4) ∧ (0 ≤ x.f3 ∧ x.f3 ≤ 200) ∧ (x.f1 = 7 → 0 ≤ x.f4 ∧ x.f4 ≤ 4294967295) ∧ (x.f1 ≠ 7 → -2147483648 ≤ x.f4 ∧ x.f4 ≤ 2147483647) := by
  unfold okB rightS at h
  have hr : readsB x.f0 = true → 1 ≤ x.f0 ∧ x.f0 ≤ 36 := fun h => by have := of_decide_eq_true h; omega
  have hw : writesB x.f0 = true → 1 ≤ x.f0 ∧ x.f0 ≤ 36 := fun h => by have := of_decide_eq_true h; omega
  have hr3 : readsB x.f3 = true → 0 ≤ x.f3 ∧ x.f3 ≤ 200 := fun h => by have := of_decide_eq_true h; omega
  split at h
  · next hc =>
    simp only [Bool.and_eq_true, decide_eq_true_eq] at h
    have := isK_lo h.1
    have := hr hc.1
    omega
  split at h
  · next hc =>
    simp only [Bool.and_eq_true, decide_eq_true_eq, thereB] at h
    have := sizeK_lo h.1.1.1
    rcases hc with hc | hc
    · have := hr hc; omega
    · have := hw hc; omega
  split at h
  · have := of_decide_eq_true h; omega
  split at h
  · have := of_decide_eq_true h; omega
  split at h
  · have := of_decide_eq_true h; have := sizeK_lo this.1; omega
  split at h
  · simp only [Bool.and_eq_true, decide_eq_true_eq] at h
    have := hr3 h.1
    omega
  split at h
  · have := of_decide_eq_true h; omega
  split at h
  · have := of_decide_eq_true h; omega
  · cases h
theorem w32 {n : Int} (h : -2147483648 ≤ n ∧ n ≤ 2147483647) (m : Int) (hm : m = n % 4294967296) : wrap32 m = n := by unfold wrap32; omega
theorem instr_at (L R : List UInt8) (x : II) (hx : okB x = true) (S : ByteArray) (hS : S = ⟨(L ++ (insB x ++ R)).toArray⟩) (hz : L.length + R.length ≤ 90000) :
    code_instr.f S (L.length : Int) false = some (x.f0, x.f1, x.f2, x.f3, x.f4, S, ((L.length + 8 : Nat) : Int), false) := by
  obtain ⟨h0, h1, h2, h3, h7, hn⟩ := okB_lo x hx
  have e : insB x = u8of x.f0 :: u8of x.f1 :: u8of x.f2 :: u8of x.f3 :: Oct.bts (x.f4 % 4294967296).toNat 4 := rfl
  have b4 : (Oct.bts (x.f4 % 4294967296).toNat 4).length = 4 := Oct.bts_length _ _
  have r0 := byte_at L (u8of x.f1 :: u8of x.f2 :: u8of x.f3 :: Oct.bts (x.f4 % 4294967296).toNat 4 ++ R) (u8of x.f0) S (by rw [hS, e]; simp) (by simp [b4]; omega)
  have r1 := byte_at (L ++ [u8of x.f0]) (u8of x.f2 :: u8of x.f3 :: Oct.bts (x.f4 % 4294967296).toNat 4 ++ R) (u8of x.f1) S (by rw [hS, e]; simp) (by simp [b4]; omega)
  have r2 := byte_at (L ++ [u8of x.f0, u8of x.f1]) (u8of x.f3 :: Oct.bts (x.f4 % 4294967296).toNat 4 ++ R) (u8of x.f2) S (by rw [hS, e]; simp) (by simp [b4]; omega)
  have r3 := byte_at (L ++ [u8of x.f0, u8of x.f1, u8of x.f2]) (Oct.bts (x.f4 % 4294967296).toNat 4 ++ R) (u8of x.f3) S (by rw [hS, e]; simp) (by simp [b4]; omega)
  have r4 := four_at (L ++ [u8of x.f0, u8of x.f1, u8of x.f2, u8of x.f3]) R (x.f4 % 4294967296).toNat (by omega) S (by rw [hS, e]; simp) (by simp; omega)
  simp only [List.length_append, List.length_cons, List.length_nil, Nat.zero_add, Nat.reduceAdd] at r1 r2 r3 r4
  rw [u8of_nat _ (by omega)] at r0 r1 r2 r3
  unfold code_instr.f
  rw [r0, Option.bind_some]
  dsimp only
  rw [r1, Option.bind_some]
  dsimp only
  rw [r2, Option.bind_some]
  dsimp only
  rw [r3, Option.bind_some]
  dsimp only
  rw [r4, Option.bind_some]
  dsimp only
  rw [w64 (show -9223372036854775808 ≤ x.f0 ∧ x.f0 ≤ 9223372036854775807 by omega), w64 (show -9223372036854775808 ≤ x.f1 ∧ x.f1 ≤ 9223372036854775807 by omega), w64 (show -9223372036854775808 ≤ x.f2 ∧ x.f2 ≤ 9223372036854775807 by omega), w64 (show -9223372036854775808 ≤ x.f3 ∧ x.f3 ≤ 9223372036854775807 by omega)]
  have hm : (((x.f4 % 4294967296).toNat : Nat) : Int) = x.f4 % 4294967296 := by omega
  rw [hm]
  by_cases hk : x.f1 = 7
  · rw [if_pos hk, w64 (by omega)]
    have := h7 hk
    rw [show x.f4 % 4294967296 = x.f4 by omega]
  · rw [if_neg hk, w32 (hn hk) _ rfl, w64 (by have := hn hk; omega)]
theorem decode_loop (l : List II) (hok : l.all okB = true) (hin : ∀ x ∈ l, inI x) (hl : l.length ≤ 200) (S : ByteArray) (hS : S = ⟨(plainB l).toArray⟩) : ∀ (d i k : Nat), d = l.length - i → i ≤ l.length → d < k →
    code_Decode.l0 k (l.take i) (l.length : Int) (i : Int) S ((1 + 8 * i : Nat) : Int) false = some (l, 0)
  | 0, i, k, hd, hi, hk => by
    obtain ⟨k, rfl⟩ : ∃ m, k = m + 1 := ⟨k - 1, by omega⟩
    have e : i = l.length := by omega
    simp only [code_Decode.l0]
    rw [if_neg (by omega), e, List.take_length, code_right_eq l hin, Option.bind_some]
    have : errE l = 0 := by unfold errE; rw [if_neg (by omega), if_pos hok]
    rw [if_pos this]
  | d + 1, i, k, hd, hi, hk => by
    obtain ⟨k, rfl⟩ : ∃ m, k = m + 1 := ⟨k - 1, by omega⟩
    have hlt : i < l.length := by omega
    have ih := decode_loop l hok hin hl S hS d (i + 1) k (by omega) (by omega) (by omega)
    have hpre : (UInt8.ofNat (l.length % 256) :: (l.take i).flatMap insB).length = 1 + 8 * i := by
      rw [List.length_cons, insBs_length, List.length_take]; omega
    have hsplit : plainB l = (UInt8.ofNat (l.length % 256) :: (l.take i).flatMap insB) ++ (insB l[i] ++ (l.drop (i + 1)).flatMap insB) := by
      have e : l = l.take i ++ (l[i] :: l.drop (i + 1)) := by rw [← List.drop_eq_getElem_cons hlt, List.take_append_drop]
      unfold plainB
      rw [List.cons_append]
      congr 1
      refine (congrArg (List.flatMap insB) e).trans ?_
      rw [List.flatMap_append, List.flatMap_cons]
    have hx : okB l[i] = true := List.all_eq_true.1 hok _ (List.getElem_mem hlt)
    have hr := instr_at _ ((l.drop (i + 1)).flatMap insB) l[i] hx S (by rw [hS, hsplit]) (by rw [hpre, insBs_length, List.length_drop]; omega)
    rw [hpre] at hr
    simp only [code_Decode.l0]
    rw [if_pos (by omega), hr, Option.bind_some]
    dsimp only
    rw [if_pos (by rw [List.length_take]; omega), w64 (by omega)]
    rw [show ((1 + 8 * i + 8 : Nat) : Int) = ((1 + 8 * (i + 1) : Nat) : Int) by omega, show ((i : Int) + 1) = ((i + 1 : Nat) : Int) by omega, ← ih, List.take_succ_eq_append_getElem hlt]
theorem decode_eq (l : List II) (hok : l.all okB = true) (hin : ∀ x ∈ l, inI x) (hl : l.length ≤ 200) (k : Nat) (hk : l.length + 1 < k) :
    code_Decode.f k (Crc.sealed ⟨(plainB l).toArray⟩) = some (l, 0) := by
  obtain ⟨k, rfl⟩ : ∃ m, k = m + 1 := ⟨k - 1, by omega⟩
  have hpl : (plainB l).length = 1 + 8 * l.length := by unfold plainB; rw [List.length_cons, insBs_length]; omega
  have hbs : (⟨(plainB l).toArray⟩ : ByteArray).size = 1 + 8 * l.length := by rw [bsize, hpl]
  have hz := Crc.sealed_size ⟨(plainB l).toArray⟩
  unfold code_Decode.f crc_Open.f
  rw [if_pos (by rw [hz, hbs]; unfold maxLen; omega), Option.bind_some, Crc.open_sealed]
  have h0 := byte_at [] (l.flatMap insB) (UInt8.ofNat (l.length % 256)) ⟨(plainB l).toArray⟩ rfl (by rw [insBs_length]; simp; omega)
  have hloop := decode_loop l hok hin hl ⟨(plainB l).toArray⟩ rfl _ 0 k rfl (Nat.zero_le _) (by omega)
  have hn : (((UInt8.ofNat (l.length % 256)).toNat : Nat) : Int) = (l.length : Int) := by rw [UInt8.toNat_ofNat']; omega
  rw [hn] at h0
  simp only [List.length_nil, Nat.zero_add] at h0
  generalize hT : (⟨(plainB l).toArray⟩ : ByteArray) = T at *
  simp only [octets_NewEye.f, octets_Eye_Blind.f, octets_Eye_Left.f, Option.bind_some, if_true]
  have h0' : octets_Eye_Byte.f T 0 false = some ((l.length : Int), T, ((1 : Nat) : Int), false) := h0
  rw [h0', Option.bind_some]
  simp only [Bool.false_eq_true, if_false]
  rw [w64 (by omega), w64 (by omega), w64 (by omega), hbs]
  simp only [code_Decode.j0]
  rw [Option.bind_some]
  dsimp only
  rw [if_neg (by simp; omega), if_neg (by omega)]
  exact hloop
end Go.Proofs.Ytclbmgnpgjhlhaa.PCode
