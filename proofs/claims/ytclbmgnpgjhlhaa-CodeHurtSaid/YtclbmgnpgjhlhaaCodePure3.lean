/- Any bytes decoded (plain): by the code as by the document, and what can be decoded is that program's bytes. -/
import Derived.Test.YtclbmgnpgjhlhaaCodePure2
namespace Go.Proofs.Ytclbmgnpgjhlhaa.PCode
open Go.RowKit Go.Proofs.YtclbmgnpgjhlhaaW.PrintWords Go.Proofs.YtclbmgnpgjhlhaaW.PrintLast
/-- The instruction of eight bytes. -/
def insOf (a b c d e f g h : UInt8) : II :=
  ⟨(a.toNat : Int), (b.toNat : Int), (c.toNat : Int), (d.toNat : Int), if (b.toNat : Int) ≠ 7 ∧ 2147483648 ≤ (Oct.num [e, f, g, h] : Int) then (Oct.num [e, f, g, h] : Int) - 4294967296 else (Oct.num [e, f, g, h] : Int)⟩
def decs : Nat → List UInt8 → List II
  | m + 1, a :: b :: c :: d :: e :: f :: g :: h :: L => insOf a b c d e f g h :: decs m L
  | _, _ => []
theorem cut8 (L : List UInt8) (m : Nat) (hl : L.length = 8 * (m + 1)) : ∃ a b c d e f g h R, L = a :: b :: c :: d :: e :: f :: g :: h :: R ∧ R.length = 8 * m := by
  match L, hl with
  | a :: b :: c :: d :: e :: f :: g :: h :: R, hl => exact ⟨a, b, c, d, e, f, g, h, R, rfl, by simp at hl; omega⟩
  | [], hl => simp at hl
  | [_], hl => simp at hl; omega
  | [_, _], hl => simp at hl; omega
  | [_, _, _], hl => simp at hl; omega
  | [_, _, _, _], hl => simp at hl; omega
  | [_, _, _, _, _], hl => simp at hl; omega
  | [_, _, _, _, _, _], hl => simp at hl; omega
  | [_, _, _, _, _, _, _], hl => simp at hl; omega
theorem num1 (c : UInt8) : Oct.num [c] = c.toNat := by
  have := UInt8.toNat_lt c
  simp [Oct.num]
theorem num4 (e f g h : UInt8) : Oct.num [e, f, g, h] = ((e.toNat * 256 + f.toNat) * 256 + g.toNat) * 256 + h.toNat := by
  have := UInt8.toNat_lt e
  have := UInt8.toNat_lt f
  have := UInt8.toNat_lt g
  have := UInt8.toNat_lt h
  simp only [Oct.num, List.foldl]
  omega
theorem bts_num4 (e f g h : UInt8) : Oct.bts (Oct.num [e, f, g, h]) 4 = [e, f, g, h] := by
  have he := UInt8.toNat_lt e
  have hf := UInt8.toNat_lt f
  have hg := UInt8.toNat_lt g
  have hh := UInt8.toNat_lt h
  rw [num4]
  have k : ∀ (x : UInt8) (n : Nat), n = x.toNat → UInt8.ofNat n = x := fun x n hn => by rw [hn]; exact UInt8.ofNat_toNat
  simp only [Oct.bts, Nat.reducePow]
  rw [k e _ (by omega), k f _ (by omega), k g _ (by omega), k h _ (by omega)]
theorem insB_of (a b c d e f g h : UInt8) : insB (insOf a b c d e f g h) = [a, b, c, d, e, f, g, h] := by
  have k : ∀ x : UInt8, u8of (x.toNat : Int) = x := fun x => by
    have := UInt8.toNat_lt x
    unfold u8of
    rw [show ((x.toNat : Int) % 256).toNat = x.toNat by omega]
    exact UInt8.ofNat_toNat
  have hn := Oct.num_lt [e, f, g, h]
  unfold insB insOf
  dsimp only
  rw [k, k, k, k]
  have hm : ((if (b.toNat : Int) ≠ 7 ∧ 2147483648 ≤ (Oct.num [e, f, g, h] : Int) then (Oct.num [e, f, g, h] : Int) - 4294967296 else (Oct.num [e, f, g, h] : Int)) % 4294967296).toNat = Oct.num [e, f, g, h] := by
    split <;> omega
  rw [hm, bts_num4]
  rfl
theorem decs_bytes : ∀ (m : Nat) (L : List UInt8), L.length = 8 * m → (decs m L).flatMap insB = L ∧ (decs m L).length = m ∧ ∀ x ∈ decs m L, inI x
  | 0, L, h => by
    have : L = [] := List.eq_nil_of_length_eq_zero (by omega)
    subst this
    exact ⟨rfl, rfl, fun x hx => by simp [decs] at hx⟩
  | m + 1, L, hl => by
    obtain ⟨a, b, c, d, e, f, g, h, R, rfl, hR⟩ := cut8 L m hl
    obtain ⟨h1, h2, h3⟩ := decs_bytes m R hR
    refine ⟨?_, ?_, ?_⟩
    · simp only [decs, List.flatMap_cons, insB_of, h1]
      rfl
    · simp only [decs, List.length_cons, h2]
    · intro x hx
      simp only [decs, List.mem_cons] at hx
      rcases hx with rfl | hx
      · have := UInt8.toNat_lt a
        have := UInt8.toNat_lt b
        have := UInt8.toNat_lt c
        have := UInt8.toNat_lt d
        have := Oct.num_lt [e, f, g, h]
        simp only [inI, insOf]
        refine ⟨by omega, by omega, by omega, by omega, ?_⟩
        split <;> omega
      · exact h3 x hx
/-! ### The document's -/
theorem rtake_at (M R : List UInt8) (n : Int) (hn : n = (M.length : Int)) : Oct.rtake ⟨(M ++ R).toArray⟩ false n = (⟨M.toArray⟩, ⟨R.toArray⟩, false) := by
  subst hn
  have hsz := bsize (M ++ R)
  rw [List.length_append] at hsz
  unfold Oct.rtake
  rw [if_neg (by rw [hsz]; simp; omega), hsz]
  refine Prod.ext ?_ (Prod.ext ?_ rfl)
  · apply ext_bytes
    rw [ByteArray.data_extract, Array.toList_extract]
    simp [List.extract]
  · apply ext_bytes
    rw [ByteArray.data_extract, Array.toList_extract]
    simp [List.extract]
theorem rins_at (a b c d e f g h : UInt8) (R : List UInt8) :
    rins ⟨(a :: b :: c :: d :: e :: f :: g :: h :: R).toArray⟩ false = (insOf a b c d e f g h, ⟨R.toArray⟩, false) := by
  have r0 := rtake_at [a] (b :: c :: d :: e :: f :: g :: h :: R) 1 rfl
  have r1 := rtake_at [b] (c :: d :: e :: f :: g :: h :: R) 1 rfl
  have r2 := rtake_at [c] (d :: e :: f :: g :: h :: R) 1 rfl
  have r3 := rtake_at [d] (e :: f :: g :: h :: R) 1 rfl
  have r4 := rtake_at [e, f, g, h] R 4 rfl
  simp only [List.cons_append, List.nil_append] at r0 r1 r2 r3 r4
  simp only [rins, rnum, r0, r1, r2, r3, r4, num1]
  rfl
theorem rinss_at : ∀ (m : Nat) (L : List UInt8), L.length = 8 * m → rinss m ⟨L.toArray⟩ false = decs m L
  | 0, _, _ => by simp [rinss, decs]
  | m + 1, L, hl => by
    obtain ⟨a, b, c, d, e, f, g, h, R, rfl, hR⟩ := cut8 L m hl
    rw [rinss, rins_at]
    simp only [decs]
    rw [rinss_at m R hR]
/-! ### The code's -/
theorem instr_any (L R : List UInt8) (a b c d e f g h : UInt8) (S : ByteArray) (hS : S = ⟨(L ++ (a :: b :: c :: d :: e :: f :: g :: h :: R)).toArray⟩) (hz : L.length + R.length ≤ 90000) :
    code_instr.f S (L.length : Int) false = some ((insOf a b c d e f g h).f0, (insOf a b c d e f g h).f1, (insOf a b c d e f g h).f2, (insOf a b c d e f g h).f3, (insOf a b c d e f g h).f4, S, ((L.length + 8 : Nat) : Int), false) := by
  have hn := Oct.num_lt [e, f, g, h]
  have ha := UInt8.toNat_lt a
  have hb := UInt8.toNat_lt b
  have hc := UInt8.toNat_lt c
  have hd := UInt8.toNat_lt d
  have hq := bts_num4 e f g h
  have r0 := byte_at L (b :: c :: d :: e :: f :: g :: h :: R) a S hS (by simp; omega)
  have r1 := byte_at (L ++ [a]) (c :: d :: e :: f :: g :: h :: R) b S (by rw [hS]; simp) (by simp; omega)
  have r2 := byte_at (L ++ [a, b]) (d :: e :: f :: g :: h :: R) c S (by rw [hS]; simp) (by simp; omega)
  have r3 := byte_at (L ++ [a, b, c]) (e :: f :: g :: h :: R) d S (by rw [hS]; simp) (by simp; omega)
  have r4 := four_at (L ++ [a, b, c, d]) R (Oct.num [e, f, g, h]) hn S (by rw [hS, hq]; simp) (by simp; omega)
  simp only [List.length_append, List.length_cons, List.length_nil, Nat.zero_add, Nat.reduceAdd] at r1 r2 r3 r4
  unfold code_instr.f
  rw [r0, Option.bind_some]
  dsimp only
  rw [r1, Option.bind_some]
  dsimp only
  rw [r2, Option.bind_some]
  dsimp only
  rw [r3, Option.bind_some]
  dsimp only
  rw [r4, Option.bind_some]
  dsimp only
  simp only [insOf]
  generalize Oct.num [e, f, g, h] = n at *
  rw [w64 (show -9223372036854775808 ≤ (a.toNat : Int) ∧ (a.toNat : Int) ≤ 9223372036854775807 by omega), w64 (show -9223372036854775808 ≤ (b.toNat : Int) ∧ (b.toNat : Int) ≤ 9223372036854775807 by omega), w64 (show -9223372036854775808 ≤ (c.toNat : Int) ∧ (c.toNat : Int) ≤ 9223372036854775807 by omega), w64 (show -9223372036854775808 ≤ (d.toNat : Int) ∧ (d.toNat : Int) ≤ 9223372036854775807 by omega)]
  by_cases hk : (b.toNat : Int) = 7
  · rw [if_pos hk, w64 (by omega), if_neg (fun h => h.1 hk)]
  · rw [if_neg hk]
    have h32 : wrap32 (n : Int) = if (b.toNat : Int) ≠ 7 ∧ 2147483648 ≤ (n : Int) then (n : Int) - 4294967296 else (n : Int) := by
      unfold wrap32
      split <;> omega
    rw [h32, w64 (by split <;> omega)]
theorem decode_any (S : ByteArray) : ∀ (m i k : Nat) (acc : List II) (P L : List UInt8), L.length = 8 * m → m < k → acc.length + m ≤ 200 → P.length ≤ 8 * i + 1 → i + m ≤ 900 → S = ⟨(P ++ L).toArray⟩ →
    code_Decode.l0 k acc ((i + m : Nat) : Int) (i : Int) S (P.length : Int) false = (code_right.f (acc ++ decs m L)).bind fun t => if t = 0 then some (acc ++ decs m L, 0) else some ([], 3)
  | 0, i, k, acc, P, L, hl, hk, ha, hP, hi, hS => by
    obtain ⟨k, rfl⟩ : ∃ m, k = m + 1 := ⟨k - 1, by omega⟩
    simp only [code_Decode.l0, decs, List.append_nil]
    rw [if_neg (by omega)]
  | m + 1, i, k, acc, P, L, hl, hk, ha, hP, hi, hS => by
    obtain ⟨k, rfl⟩ : ∃ m, k = m + 1 := ⟨k - 1, by omega⟩
    obtain ⟨a, b, c, d, e, f, g, h, R, rfl, hR⟩ := cut8 L m hl
    have ih := decode_any S m (i + 1) k (acc ++ [insOf a b c d e f g h]) (P ++ [a, b, c, d, e, f, g, h]) R hR (by omega) (by simp; omega) (by simp; omega) (by omega) (by rw [hS]; simp)
    have hr := instr_any P R a b c d e f g h S hS (by omega)
    simp only [code_Decode.l0]
    rw [if_pos (by omega), hr, Option.bind_some]
    dsimp only
    rw [if_pos (by omega), w64 (by omega)]
    simp only [decs]
    rw [List.length_append, List.append_assoc] at ih
    have e1 : ((i + 1 + m : Nat) : Int) = ((i + (m + 1) : Nat) : Int) := by omega
    have e2 : ((i + 1 : Nat) : Int) = (i : Int) + 1 := by omega
    rw [e1, e2] at ih
    exact ih
/-- What any bytes say: the program and the error. -/
def decT (t : ByteArray) : List II × Int :=
  if t.size < 2 then ([], 9) else if Crc.sealed (t.extract 0 (t.size - 2)) ≠ t then ([], 9)
  else match (t.extract 0 (t.size - 2)).data.toList with
    | [] => ([], 10)
    | c :: L => if L.length ≠ 8 * c.toNat then ([], 10) else if 200 < c.toNat then ([], 2) else if errE (decs c.toNat L) = 0 then (decs c.toNat L, 0) else ([], 3)
theorem rdecode_eq (t : ByteArray) (ht : t.size ≤ 100000) (k : Nat) (hk : 300 < k) : fuglemanref13_Decode.f k t = some (decT t) := by
  unfold fuglemanref13_Decode.f decT
  rw [if_neg (by omega)]
  by_cases h2 : t.size < 2
  · rw [if_pos h2, if_pos h2]
  rw [if_neg h2, if_neg h2, Crc.rsealed_eq]
  by_cases hs : Crc.sealed (t.extract 0 (t.size - 2)) ≠ t
  · rw [if_pos hs, if_pos hs]
  rw [if_neg hs, if_neg hs]
  clear hs
  have hsz : (t.extract 0 (t.size - 2)).size ≤ 100000 := by rw [ByteArray.size_extract]; omega
  generalize t.extract 0 (t.size - 2) = T at hsz ⊢
  dsimp only
  have hT : T = ⟨T.data.toList.toArray⟩ := by cases T; simp
  generalize hL : T.data.toList = l at hT
  subst hT
  cases l with
  | nil =>
    have : Oct.rtake ⟨([] : List UInt8).toArray⟩ false 1 = (⟨#[]⟩, ⟨#[]⟩, true) := by decide
    rw [this, if_pos (Or.inl rfl)]
  | cons c L =>
    have hr := rtake_at [c] L 1 rfl
    rw [List.singleton_append] at hr
    have hcl := UInt8.toNat_lt c
    unfold rnum
    rw [hr]
    dsimp only
    have hb := bsize L
    have hn := num1 c
    by_cases h8 : L.length ≠ 8 * c.toNat
    · rw [if_pos (Or.inr (by omega)), if_pos h8]
    rw [if_neg (fun h => h.elim (fun h => by cases h) (fun h => h8 (by omega))), if_neg h8]
    have h8 := Classical.not_not.1 h8
    by_cases h20 : 200 < c.toNat
    · rw [if_pos (by omega), if_pos h20]
    rw [if_neg (by omega), if_neg h20, Int.toNat_natCast, hn, rinss_at _ L h8]
    obtain ⟨-, d2, d3⟩ := decs_bytes _ L h8
    rw [error_eq _ d3 (by omega) k (by omega), Option.bind_some]
    split <;> rfl
theorem decode_all (t : ByteArray) (ht : t.size ≤ 3000) (k : Nat) (hk : 300 < k) : code_Decode.f k t = some (decT t) := by
  obtain ⟨k, rfl⟩ : ∃ m, k = m + 1 := ⟨k - 1, by omega⟩
  unfold code_Decode.f crc_Open.f decT
  rw [if_pos (by unfold maxLen; omega), Option.bind_some]
  by_cases h2 : t.size < 2
  · rw [if_pos h2, Crc.opened_short t h2]
    rfl
  rw [if_neg h2]
  by_cases hs : Crc.sealed (t.extract 0 (t.size - 2)) ≠ t
  · rw [if_pos hs, Crc.opened_no t (fun h => hs ((Crc.open_just t (by omega)).1 h))]
    rfl
  rw [if_neg hs]
  have hs := Classical.not_not.1 hs
  rw [Crc.opened_yes t h2 ((Crc.open_just t (by omega)).2 hs)]
  clear hs
  have hsz : (t.extract 0 (t.size - 2)).size ≤ 3000 := by rw [ByteArray.size_extract]; omega
  generalize t.extract 0 (t.size - 2) = T at hsz ⊢
  dsimp only
  have hT : T = ⟨T.data.toList.toArray⟩ := by cases T; simp
  generalize hL : T.data.toList = l at hT
  have hTs : T.size = l.length := by rw [hT]; exact bsize l
  simp only [octets_NewEye.f, octets_Eye_Blind.f, octets_Eye_Left.f, Option.bind_some, if_true]
  cases l with
  | nil =>
    subst hT
    have : octets_Eye_Byte.f ⟨([] : List UInt8).toArray⟩ 0 false = some (0, ⟨([] : List UInt8).toArray⟩, 0, true) := by
      unfold octets_Eye_Byte.f
      rw [if_pos (by decide)]
      decide
    rw [this, Option.bind_some]
    simp only [if_true, code_Decode.j0]
  | cons c L =>
    have h0 := byte_at [] L c T (by rw [hT]; rfl) (by rw [List.length_cons] at hTs; simp; omega)
    have h0' : octets_Eye_Byte.f T 0 false = some ((c.toNat : Int), T, ((1 : Nat) : Int), false) := h0
    have hcl := UInt8.toNat_lt c
    rw [List.length_cons] at hTs
    rw [h0', Option.bind_some]
    simp only [Bool.false_eq_true, if_false, Option.bind_some]
    rw [w64 (show -9223372036854775808 ≤ (c.toNat : Int) ∧ (c.toNat : Int) ≤ 9223372036854775807 by omega), w64 (show -9223372036854775808 ≤ (c.toNat : Int) * 8 ∧ (c.toNat : Int) * 8 ≤ 9223372036854775807 by omega), w64 (show -9223372036854775808 ≤ (T.size : Int) - ((1 : Nat) : Int) ∧ (T.size : Int) - ((1 : Nat) : Int) ≤ 9223372036854775807 by omega)]
    simp only [code_Decode.j0]
    by_cases h8 : L.length ≠ 8 * c.toNat
    · rw [if_pos (by rw [bne_iff_ne]; omega), if_pos h8]
    rw [if_neg (by rw [bne_iff_ne]; omega), if_neg h8]
    have h8 := Classical.not_not.1 h8
    by_cases h20 : 200 < c.toNat
    · rw [if_pos (by omega), if_pos h20]
    rw [if_neg (by omega), if_neg h20]
    have hd := decode_any T c.toNat 0 k [] [c] L h8 (by omega) (by simp; omega) (by simp) (by omega) (by rw [hT]; rfl)
    rw [Nat.zero_add] at hd
    obtain ⟨-, d2, d3⟩ := decs_bytes _ L h8
    rw [List.nil_append, code_right_eq _ d3, Option.bind_some] at hd
    refine (show _ = _ from hd).trans ?_
    split <;> rfl
/-- What can be decoded is that program's bytes. -/
theorem decT_back (t : ByteArray) (ht : t.size ≤ 3000) (h : (decT t).2 = 0) : code_Encode.f (decT t).1 = some (t, 0) := by
  unfold decT at h ⊢
  split at h
  · simp at h
  split at h
  · simp at h
  next h2 hs =>
  rw [if_neg h2, if_neg hs]
  have hs := Classical.not_not.1 hs
  have hsz : (t.extract 0 (t.size - 2)).size ≤ 3000 := by rw [ByteArray.size_extract]; omega
  generalize t.extract 0 (t.size - 2) = T at hs hsz h ⊢
  have hT : T = ⟨T.data.toList.toArray⟩ := by cases T; simp
  generalize T.data.toList = l at hT h ⊢
  cases l with
  | nil => simp at h
  | cons c L =>
    dsimp only at h ⊢
    split at h
    · simp at h
    split at h
    · simp at h
    split at h
    · next h8 h20 he =>
      rw [if_neg h8, if_neg h20, if_pos he]
      have h8 := Classical.not_not.1 h8
      obtain ⟨d1, d2, d3⟩ := decs_bytes _ L h8
      have hcl := UInt8.toNat_lt c
      have hp : plainB (decs c.toNat L) = c :: L := by
        unfold plainB
        rw [d1, d2, Nat.mod_eq_of_lt (by omega)]
        exact congrArg (· :: L) UInt8.ofNat_toNat
      dsimp only
      unfold code_Encode.f
      rw [code_right_eq _ d3, Option.bind_some, if_pos he]
      unfold code_plain.f crc_Sealed.f
      rw [if_pos (by omega), Option.bind_some, hp, ← hT, if_pos (by unfold maxLen; omega), Option.bind_some, hs]
    · simp at h
end Go.Proofs.Ytclbmgnpgjhlhaa.PCode
