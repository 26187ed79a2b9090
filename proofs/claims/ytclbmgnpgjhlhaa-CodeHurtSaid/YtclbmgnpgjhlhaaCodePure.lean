/- Programs as bytes (plain): which may be, their bytes, and that they are read back. -/
import Derived.Test.YtclbmgnpgjhlhaaPCodex
import Derived.Test.YtclbmgnpgjhlhaagCrc
namespace Go.Proofs.Ytclbmgnpgjhlhaa.PCode
open Go.RowKit Go.Proofs.YtclbmgnpgjhlhaaW.PrintWords Go.Proofs.YtclbmgnpgjhlhaaW.PrintLast
abbrev II := S89
def okB (x : II) : Bool := rightS x.f0 x.f1 x.f2 x.f3 x.f4
/-- Numbers of their kinds. -/
def inI (x : II) : Prop := (-9223372036854775808 ≤ x.f0 ∧ x.f0 ≤ 9223372036854775807) ∧ (-9223372036854775808 ≤ x.f1 ∧ x.f1 ≤ 9223372036854775807) ∧ (-9223372036854775808 ≤ x.f2 ∧ x.f2 ≤ 9223372036854775807) ∧ (-9223372036854775808 ≤ x.f3 ∧ x.f3 ≤ 9223372036854775807) ∧ (-9223372036854775808 ≤ x.f4 ∧ x.f4 ≤ 9223372036854775807)
theorem w64 {n : Int} (h : -9223372036854775808 ≤ n ∧ n ≤ 9223372036854775807) : wrap64 n = n := by unfold wrap64; omega
/-! ### 1. May an instruction be? -/
theorem cls_of : ∀ n : Fin 37,
    opClasses.getD n.val 0 = if readsB (n.val : Int) = true then 1 else if writesB (n.val : Int) = true then 2 else if 25 ≤ n.val ∧ n.val ≤ 27 then 3
      else if n.val = 13 ∨ 28 ≤ n.val ∧ n.val ≤ 30 ∨ n.val = 33 then 4 else if n.val = 31 then 5 else if n.val = 32 then 6 else if n.val = 34 ∨ n.val = 35 then 7 else if n.val = 36 then 8 else 0 := by decide
/-- The class of an operation. -/
def clsI (op : Int) : Int := if readsB op = true then 1 else if writesB op = true then 2 else if 25 ≤ op ∧ op ≤ 27 then 3
      else if op = 13 ∨ 28 ≤ op ∧ op ≤ 30 ∨ op = 33 then 4 else if op = 31 then 5 else if op = 32 then 6 else if op = 34 ∨ op = 35 then 7 else if op = 36 then 8 else 0
theorem of_cls (op : Int) : ∃ s, il_of.f op = some (s, clsI op) := by
  unfold il_of.f
  by_cases h : 0 ≤ op ∧ op ≤ 36
  · obtain ⟨n, rfl⟩ := Int.eq_ofNat_of_zero_le h.1
    rw [if_pos h, Int.toNat_natCast]
    have hc := cls_of ⟨n, by omega⟩
    simp only at hc
    refine ⟨opNames.getD n ⟨#[]⟩, ?_⟩
    rw [hc]
    unfold clsI
    congr 2
    repeat' split
    all_goals first | rfl | omega
  · rw [if_neg h]
    refine ⟨⟨#[]⟩, ?_⟩
    have h1 : readsB op = false := readsB_no (by omega)
    have h2 : writesB op = false := writesB_no (by omega)
    have : clsI op = 0 := by
      unfold clsI
      rw [h1, h2]
      simp
      omega
    rw [this]
theorem stands_eq (op kind area at_ n least : Int) (h3 : -9223372036854775808 ≤ at_ ∧ at_ ≤ 9223372036854775807) :
    il_stands.f op kind area at_ n least = some (thereB 64 at_ (sizeK (kN kind)) && decide (least ≤ area ∧ area ≤ 4 ∧ n = 0)) := by
  have hb := sizeK_bd (kN kind)
  unfold il_stands.f iec_Size.f
  rw [Option.bind_some, w64 (by omega)]
  unfold thereB
  generalize sizeK (kN kind) = z at *
  repeat' split
  all_goals
    congr 1
    rw [Bool.eq_iff_iff]
    simp
    omega
theorem within_eq (op : Int) : il_within.f op = some (readsB op && decide (2 < op)) := by
  obtain ⟨s, hs⟩ := of_cls op
  unfold il_within.f
  rw [hs, Option.bind_some]
  dsimp only
  rcases hr : readsB op with _ | _
  · have : clsI op ≠ 1 := by
      unfold clsI
      rw [hr]
      simp
      repeat' split
      all_goals omega
    rw [if_neg this]
    rfl
  · have : clsI op = 1 := by unfold clsI; rw [hr]; simp
    rw [if_pos this]
    congr 1
    rw [Bool.eq_iff_iff]
    simp
    have := of_decide_eq_true hr
    omega
theorem keeps_eq (a : Int) : il_keeps.f a = some (decide (a = 3 ∨ a = 4)) := by
  unfold il_keeps.f
  split
  · next h => subst h; rfl
  · next h => congr 1; rw [Bool.eq_iff_iff]; simp; omega
theorem right_eq (x : II) (h : inI x) : il_Right.f 2 x.f0 x.f1 x.f2 x.f3 x.f4 = some (okB x) := by
  obtain ⟨op, kind, area, at_, n⟩ := x
  obtain ⟨h0, h1, h2, h3, h4⟩ := h
  dsimp only at *
  obtain ⟨s, hs⟩ := of_cls op
  have hj : ∀ b : Bool, b = (decide (area = 0) && decide (n = 0)) → il_Right.j0 2 (clsI op) b op kind area at_ n = some (okB ⟨op, kind, area, at_, n⟩) := by
    intro b hb
    simp only [il_Right.j0, stands_eq _ _ _ _ _ _ h3, within_eq, keeps_eq, iec_Is.f, iec_Size.f, Option.bind_some]
    unfold okB rightS
    dsimp only
    subst hb
    simp only [Bool.and_eq_true, decide_eq_true_eq]
    clear hs
    rcases hr : readsB op with _ | _
    · rcases hw : writesB op with _ | _
      · have hr' := of_decide_eq_false hr
        have hw' := of_decide_eq_false hw
        unfold clsI
        rw [hr, hw]
        simp only [Bool.false_eq_true, false_and, or_self, if_false]
        by_cases c3 : 25 ≤ op ∧ op ≤ 27
        · simp only [c3, and_self, if_true]
          simp
          repeat' split
          all_goals first | omega | (simp; omega) | (rw [Bool.eq_iff_iff]; simp; omega) | (simp_all; done) | (simp_all; omega) | (rw [Bool.eq_iff_iff]; simp_all; done) | (rw [Bool.eq_iff_iff]; simp_all; omega) | (congr 1; rw [Bool.eq_iff_iff]; simp; omega)
        simp only [c3, if_false]
        by_cases c4 : op = 13 ∨ 28 ≤ op ∧ op ≤ 30 ∨ op = 33
        · simp only [c4, if_true]
          simp
          repeat' split
          all_goals first | omega | (simp; omega) | (rw [Bool.eq_iff_iff]; simp; omega) | (simp_all; done) | (simp_all; omega) | (rw [Bool.eq_iff_iff]; simp_all; done) | (rw [Bool.eq_iff_iff]; simp_all; omega) | (congr 1; rw [Bool.eq_iff_iff]; simp; omega)
        simp only [c4, if_false]
        by_cases c5 : op = 31
        · simp only [c5, if_true]
          simp
          repeat' split
          all_goals first | omega | (simp; omega) | (rw [Bool.eq_iff_iff]; simp; omega) | (simp_all; done) | (simp_all; omega) | (rw [Bool.eq_iff_iff]; simp_all; done) | (rw [Bool.eq_iff_iff]; simp_all; omega) | (congr 1; rw [Bool.eq_iff_iff]; simp; omega)
        simp only [c5, if_false]
        by_cases c6 : op = 32
        · simp only [c6, if_true]
          simp
          repeat' split
          all_goals first | omega | (simp; omega) | (rw [Bool.eq_iff_iff]; simp; omega) | (simp_all; done) | (simp_all; omega) | (rw [Bool.eq_iff_iff]; simp_all; done) | (rw [Bool.eq_iff_iff]; simp_all; omega) | (congr 1; rw [Bool.eq_iff_iff]; simp; omega)
        simp only [c6, if_false]
        by_cases c7 : op = 34 ∨ op = 35
        · simp only [c7, if_true]
          simp
          repeat' split
          all_goals first | omega | (simp; omega) | (rw [Bool.eq_iff_iff]; simp; omega) | (simp_all; done) | (simp_all; omega) | (rw [Bool.eq_iff_iff]; simp_all; done) | (rw [Bool.eq_iff_iff]; simp_all; omega) | (congr 1; rw [Bool.eq_iff_iff]; simp; omega)
        simp only [c7, if_false]
        by_cases c8 : op = 36
        · simp only [c8, if_true]
          simp
          repeat' split
          all_goals first | omega | (simp; omega) | (rw [Bool.eq_iff_iff]; simp; omega) | (simp_all; done) | (simp_all; omega) | (rw [Bool.eq_iff_iff]; simp_all; done) | (rw [Bool.eq_iff_iff]; simp_all; omega) | (congr 1; rw [Bool.eq_iff_iff]; simp; omega)
        simp only [c8, if_false]
        simp
      · unfold clsI
        rw [hr, hw]
        simp
        generalize thereB 64 at_ (sizeK (kN kind)) = tb
        cases tb
        · simp
        · rw [Bool.eq_iff_iff]
          simp
          omega
    · have hw : writesB op = false := writesB_no (by have := of_decide_eq_true hr; omega)
      unfold clsI
      rw [hr, hw]
      simp
      generalize thereB 64 at_ (sizeK (kN kind)) = tb
      generalize isK (kN kind) n = ib
      by_cases ha : area = 0 <;> by_cases hn : n = 0 <;> by_cases ht : at_ = 0 <;> cases tb <;> cases ib <;> simp [ha, hn, ht] <;> (try rw [Bool.eq_iff_iff]) <;> (try simp) <;> (try omega)
  unfold il_Right.f
  rw [hs, Option.bind_some]
  dsimp only
  split
  · next ha => exact hj _ (by subst ha; rw [Bool.eq_iff_iff]; simp)
  · next ha => exact hj _ (by rw [Bool.eq_iff_iff]; simp [ha])
/-- The error of a program; 0: it may be. -/
def errE (l : List II) : Int := if 200 < l.length then 2 else if l.all okB = true then 0 else 3
theorem firstBad_eq : ∀ (l : List II) (i : Nat), (∀ x ∈ l, inI x) → ∃ j : Int, firstBad l i = some j ∧ (j < 0 ↔ l.all okB = true)
  | [], i, _ => ⟨-1, rfl, by simp⟩
  | x :: l, i, h => by
    obtain ⟨j, hj, hjj⟩ := firstBad_eq l (i + 1) (fun y hy => h y (List.mem_cons_of_mem _ hy))
    simp only [firstBad, right_eq x (h x (List.mem_cons_self ..)), Option.bind_some]
    rcases hx : okB x with _ | _
    · exact ⟨(i : Int), by simp, by simp [hx]⟩
    · exact ⟨j, by simpa using hj, by simpa [hx] using hjj⟩
theorem code_right_eq (l : List II) (h : ∀ x ∈ l, inI x) : code_right.f l = some (errE l) := by
  unfold code_right.f errE
  by_cases hl : 200 < l.length
  · rw [if_pos hl, if_pos hl]
  · rw [if_neg hl, if_neg hl]
    obtain ⟨j, hj, hjj⟩ := firstBad_eq l 0 h
    rw [hj, Option.bind_some]
    by_cases hn : j < 0
    · rw [if_pos hn, if_pos (hjj.1 hn)]
    · rw [if_neg hn, if_neg (fun e => hn (hjj.2 e))]
theorem rd_at (l : List II) (i : Nat) (h : i < l.length) : rd_T89 l (i : Int) = l[i] := by simp [rd_T89, List.getD_eq_getElem?_getD, List.getElem?_eq_getElem h]
theorem error_loop (l : List II) (h : ∀ x ∈ l, inI x) (hl : l.length ≤ 1000) : ∀ (d i k : Nat), d = l.length - i → i ≤ l.length → d < k →
    fuglemanref13_Error.l0 k l (i : Int) = some (if (l.drop i).all okB = true then 0 else 3)
  | 0, i, k, hd, hi, hk => by
    obtain ⟨k, rfl⟩ : ∃ m, k = m + 1 := ⟨k - 1, by omega⟩
    have e : i = l.length := by omega
    simp only [fuglemanref13_Error.l0]
    rw [if_neg (by omega), e, List.drop_length]
    rfl
  | d + 1, i, k, hd, hi, hk => by
    obtain ⟨k, rfl⟩ : ∃ m, k = m + 1 := ⟨k - 1, by omega⟩
    have hlt : i < l.length := by omega
    have ih := error_loop l h hl d (i + 1) k (by omega) (by omega) (by omega)
    have hx := h _ (List.getElem_mem hlt)
    simp only [fuglemanref13_Error.l0]
    rw [if_pos (by omega), if_pos (by omega), rd_at l i hlt]
    unfold fuglemanref12_Right.f
    rw [if_pos hx.2.2.2.1, Option.bind_some, List.drop_eq_getElem_cons hlt, w64 (by omega)]
    rw [show ((i : Int) + 1) = ((i + 1 : Nat) : Int) by omega, ih]
    show (if okB l[i] = true then _ else _) = _
    generalize l[i] = y
    generalize l.drop (i + 1) = r
    rcases hb : okB y with _ | _ <;> simp [hb]
theorem error_eq (l : List II) (h : ∀ x ∈ l, inI x) (hl : l.length ≤ 1000) (k : Nat) (hk : l.length < k) : fuglemanref13_Error.f k l = some (errE l) := by
  unfold fuglemanref13_Error.f errE
  by_cases h2 : 200 < l.length
  · rw [if_pos (by omega), if_pos h2]
  · rw [if_neg (by omega), if_neg h2]
    exact error_loop l h hl _ 0 k rfl (Nat.zero_le _) (by omega)
/-! ### 2. The same instructions? -/
theorem same_loop (l m : List II) (hl : l.length ≤ 100000) (he : l.length = m.length) : ∀ (d i k : Nat), d = l.length - i → i ≤ l.length → d < k →
    ∃ b, fuglemanref12_Same.l0 k l m (i : Int) = some b ∧ (b = true ↔ l.drop i = m.drop i)
  | 0, i, k, hd, hi, hk => by
    obtain ⟨k, rfl⟩ : ∃ m, k = m + 1 := ⟨k - 1, by omega⟩
    have e : i = l.length := by omega
    refine ⟨true, ?_, ?_⟩
    · simp only [fuglemanref12_Same.l0]
      rw [if_neg (by omega)]
    · rw [e, List.drop_length, he, List.drop_length]
      simp
  | d + 1, i, k, hd, hi, hk => by
    obtain ⟨k, rfl⟩ : ∃ m, k = m + 1 := ⟨k - 1, by omega⟩
    have hlt : i < l.length := by omega
    obtain ⟨b, ih, hb⟩ := same_loop l m hl he d (i + 1) k (by omega) (by omega) (by omega)
    simp only [fuglemanref12_Same.l0]
    rw [if_pos (by omega), if_pos (by omega), if_pos (by omega), rd_at l i hlt, rd_at m i (by omega), w64 (by omega), show ((i : Int) + 1) = ((i + 1 : Nat) : Int) by omega, ih,
      List.drop_eq_getElem_cons hlt, List.drop_eq_getElem_cons (show i < m.length by omega)]
    generalize l[i] = x
    generalize m[i] = y
    obtain ⟨x0, x1, x2, x3, x4⟩ := x
    obtain ⟨y0, y1, y2, y3, y4⟩ := y
    by_cases hxy : x0 = y0 ∧ x1 = y1 ∧ x2 = y2 ∧ x3 = y3 ∧ x4 = y4
    · obtain ⟨rfl, rfl, rfl, rfl, rfl⟩ := hxy
      exact ⟨b, by simp, by simpa using hb⟩
    · refine ⟨false, ?_, ?_⟩
      · rw [if_pos (by simp; omega)]
      · simp
        omega
theorem same_eq (l m : List II) (hl : l.length ≤ 100000) (k : Nat) (hk : l.length < k) : ∃ b, fuglemanref12_Same.f k l m = some b ∧ (b = true ↔ l = m) := by
  unfold fuglemanref12_Same.f
  by_cases he : l.length = m.length
  · rw [if_pos (by omega)]
    obtain ⟨b, h1, h2⟩ := same_loop l m hl he _ 0 k rfl (Nat.zero_le _) (by omega)
    exact ⟨b, h1, by simpa using h2⟩
  · rw [if_neg (by omega)]
    exact ⟨false, rfl, by simp; intro e; exact he (by rw [e])⟩
/-! ### 3. The bytes -/
theorem u8of_bts (a : Int) : (⟨(Oct.bts (a % 4294967296).toNat 1).toArray⟩ : ByteArray) = ⟨#[u8of a]⟩ := by
  simp only [Oct.bts, u8of]
  congr 4
  omega
end Go.Proofs.Ytclbmgnpgjhlhaa.PCode
