/- Members (plain): lists, counts and texts of sets; the law of sets. -/
import Derived.Test.YtmehafolnpkmhaaDoorMemPure3
namespace Go.Proofs.YtmehafolnpkmhaaDoor.PMem
open Go.RowKit Go.Proofs.YtmehafolnpkmhaaDoorW.PrintWords Go.Proofs.YtmehafolnpkmhaaDoorW.PrintLast
/-! ### Lists -/
theorem elems_nil (x : Nat) (hx : Set32 x) (h : elems x 0 32 = []) : x = 0 := by
  refine zero_of x hx fun i hi => ?_
  cases hb : x.testBit i with
  | false => rfl
  | true =>
    have := (elems_mem x 32 0 (i : Int)).2 ⟨i, rfl, by omega, by omega, hb⟩
    rw [h] at this; cases this
theorem elems_next (x : Nat) (hx : Set32 x) (h0 : x ≠ 0) : elems x 0 32 = ((Lib.ctz 32 x : Nat) : Int) :: elems (withoutN x ((Lib.ctz 32 x : Nat) : Int)) 0 32 := by
  obtain ⟨hk, hb, hl⟩ := ctz_bits x h0 hx
  generalize Lib.ctz 32 x = b at *
  rw [elems_first x b hk hb hl]
  congr 1
  have h1 := elems_skip (withoutN x (b : Int)) (b + 1) (31 - b) 0 (fun c h1 h2 => by
    rw [withoutN_bit _ _ _ (by omega)]
    by_cases e : c = b
    · subst e; simp
    · rw [hl c (by omega)]; rfl)
  rw [show b + 1 + (31 - b) = 32 by omega, Nat.zero_add] at h1
  rw [h1]
  exact elems_congr _ _ _ _ fun c h2 h3 => by
    rw [withoutN_bit _ _ _ (by omega)]
    have : ¬ ((c : Int) = b) := by omega
    simp [this]
theorem mlist_loop : ∀ (l : List Int) (x k : Nat) (acc : List Int), Set32 x → elems x 0 32 = l → acc.length + l.length ≤ 100 → l.length < k →
    (members_first.f (x : Int)).bind (fun bt => members_List.l0 k (x : Int) acc bt.1 bt.2) = some (acc ++ l)
  | [], x, k, acc, hx, hl, ha, hk => by
    obtain ⟨k, rfl⟩ : ∃ m, k = m + 1 := ⟨k - 1, by omega⟩
    have h0 := elems_nil x hx hl
    rw [first_eq x hx, if_pos h0, Option.bind_some]
    simp [members_List.l0]
  | n :: l, x, k, acc, hx, hl, ha, hk => by
    obtain ⟨k, rfl⟩ : ∃ m, k = m + 1 := ⟨k - 1, by omega⟩
    have h0 : x ≠ 0 := by
      rintro rfl
      have : elems 0 0 32 = [] := by decide
      rw [this] at hl; cases hl
    have hn := elems_next x hx h0
    rw [hl] at hn
    obtain ⟨hn1, hn2⟩ := List.cons.inj hn
    subst hn1
    simp only [List.length_cons] at ha hk
    rw [first_eq x hx, if_neg h0, Option.bind_some]
    simp only [members_List.l0]
    rw [if_pos trivial, if_pos (by omega), mWithout_eq x _ hx, Option.bind_some, mlist_loop l _ k (acc ++ [((Lib.ctz 32 x : Nat) : Int)]) (withoutN_lt _ _) hn2.symm (by simp; omega) (by omega)]
    simp
theorem mList_eq (x k : Nat) (hx : Set32 x) (hk : 40 < k) : members_List.f k (x : Int) = some (elems x 0 32) := by
  unfold members_List.f
  have h := mlist_loop (elems x 0 32) x k [] hx rfl (by have := filter_len x; simp; omega) (by have := filter_len x; omega)
  simpa using h
theorem list_same (l : List Int) (hl : l.length ≤ 100) : ∀ (d k i : Nat), i + d = l.length → d < k → fuglemanlaw05_list.l0 k l l (l.length : Int) (i : Int) = some true
  | 0, k, i, h, hk => by
    obtain ⟨k, rfl⟩ : ∃ m, k = m + 1 := ⟨k - 1, by omega⟩
    simp only [fuglemanlaw05_list.l0]
    rw [if_neg (by omega)]
  | d + 1, k, i, h, hk => by
    obtain ⟨k, rfl⟩ : ∃ m, k = m + 1 := ⟨k - 1, by omega⟩
    simp only [fuglemanlaw05_list.l0]
    rw [if_pos (by omega), if_pos (by omega), if_pos (by omega), if_pos (by omega), if_pos trivial, w64succ i (by omega)]
    exact list_same l hl d k (i + 1) (by omega) (by omega)
theorem list_refl (l : List Int) (k : Nat) (hl : l.length ≤ 100) (hk : 100 < k) : fuglemanlaw05_list.f k l l = some true := by
  unfold fuglemanlaw05_list.f
  rw [if_pos rfl]
  exact list_same l hl l.length k 0 (by omega) (by omega)
/-! ### How many -/
theorem pop8_tab : ∀ i : Fin 256, bt popTab (i.val : Int) = (cnt i.val 0 8 : Int) := by decide +kernel
theorem pop8_at (i : Nat) (h : i < 256) : bt popTab (i : Int) = (cnt i 0 8 : Int) := pop8_tab ⟨i, h⟩
theorem and255 (a : Nat) (ha : Set32 a) : bits .and .u32 (a : Int) 255 = ((a % 256 : Nat) : Int) := by
  have := and_u32 a 255 ha (by decide)
  have h2 : a &&& 255 = a % 256 := Nat.and_two_pow_sub_one_eq_mod a 8
  rw [h2] at this
  exact this
theorem pop32_eq (x : Nat) (hx : Set32 x) : bits_OnesCount32.f (x : Int) = some ((cnt x 0 32 : Nat) : Int) := by
  have hx' : x < 4294967296 := hx
  rw [pop32_def]
  have e3 : (x : Int) / 16777216 = ((x / 16777216 : Nat) : Int) := by omega
  have e2 : (x : Int) / 65536 = ((x / 65536 : Nat) : Int) := by omega
  have e1 : (x : Int) / 256 = ((x / 256 : Nat) : Int) := by omega
  rw [e3, e2, e1, and255 _ (by unfold Set32; omega), and255 _ (by unfold Set32; omega), and255 _ hx]
  rw [if_pos (by omega), if_pos (by omega), if_pos (by omega), if_pos (by omega), if_pos (by omega), if_pos (by omega), if_pos (by omega), if_pos (by omega)]
  rw [pop8_at _ (by omega), pop8_at _ (by omega), pop8_at _ (by omega), pop8_at _ (by omega)]
  have h := cnt_bytes x
  have hm : x / 16777216 % 256 = x / 16777216 := by omega
  rw [hm] at h
  have b3 := cnt_le (x / 16777216) 8 0
  have b2 := cnt_le (x / 65536 % 256) 8 0
  have b1 := cnt_le (x / 256 % 256) 8 0
  have b0 := cnt_le (x % 256) 8 0
  refine some_eq ?_
  omega
theorem mLen_eq (x : Nat) (hx : Set32 x) : members_Len.f (x : Int) = some ((elems x 0 32).length : Int) := by
  unfold members_Len.f
  rw [pop32_eq x hx, Option.bind_some, elems_len]
/-! ### Texts -/
/-- The digits of an address. -/
def dg (n : Int) : ByteArray := (strconv_small.f n).getD ⟨#[]⟩
theorem dg_small : ∀ n : Fin 32, strconv_small.f (n.val : Int) = some (dg (n.val : Int)) ∧ (dg (n.val : Int)).size ≤ 2 := by decide +kernel
theorem itoa_eq (n : Int) (h0 : 0 ≤ n) (h : n < 32) : strconv_Itoa_59.f n = some (dg n) ∧ (dg n).size ≤ 2 := by
  obtain ⟨m, rfl⟩ := Int.eq_ofNat_of_zero_le h0
  unfold strconv_Itoa_59.f
  rw [if_pos (by omega)]
  exact dg_small ⟨m, by omega⟩
theorem digits_one : ∀ n : Fin 10, (⟨#[]⟩ : ByteArray) = ⟨#[]⟩ ∧ strOfNums [(wrap64 (48 + (n.val : Int))) % 256] ++ (⟨#[]⟩ : ByteArray) = dg (n.val : Int) := by decide +kernel
theorem digits_two : ∀ n : Fin 32, 10 ≤ n.val → strOfNums [(wrap64 (48 + (wrap64 (Int.tdiv (n.val : Int) 10)))) % 256] ++ (strOfNums [(wrap64 (48 + (Int.tmod (n.val : Int) 10))) % 256] ++ (⟨#[]⟩ : ByteArray)) = dg (n.val : Int) ∧ wrap64 (Int.tdiv (n.val : Int) 10) < 10
    ∧ (strOfNums [(wrap64 (48 + (Int.tmod (n.val : Int) 10))) % 256]).size = 1 ∧ (strOfNums [(wrap64 (48 + (wrap64 (Int.tdiv (n.val : Int) 10)))) % 256]).size = 1 := by decide +kernel
theorem digits_eq (n : Int) (k : Nat) (h0 : 0 ≤ n) (h : n < 32) (hk : 2 < k) : fuglemanref03_Digits.f k n = some (dg n) := by
  obtain ⟨m, rfl⟩ := Int.eq_ofNat_of_zero_le h0
  obtain ⟨k, rfl⟩ : ∃ m, k = m + 2 := ⟨k - 2, by omega⟩
  unfold fuglemanref03_Digits.f
  by_cases h10 : m < 10
  · have hd := (digits_one ⟨m, h10⟩).2
    have hs := (dg_small ⟨m, by omega⟩).2
    simp only at hd hs
    rw [← hd, ByteArray.size_append] at hs
    simp only [fuglemanref03_Digits.l0]
    rw [if_neg (by omega), Option.bind_some, if_pos (by omega), hd]
  · obtain ⟨hd, h1, h2, h3⟩ := digits_two ⟨m, by omega⟩ (by simp; omega)
    simp only at hd h1 h2 h3
    simp only [fuglemanref03_Digits.l0]
    have hz : (⟨#[]⟩ : ByteArray).size = 0 := rfl
    rw [if_pos (by omega), Option.bind_some, if_pos (by omega), if_neg (by omega), Option.bind_some, if_pos (by rw [ByteArray.size_append]; omega), hd]
/-- The further ones of a text. -/
def tailB : List Int → ByteArray
  | [] => ⟨#[]⟩
  | n :: r => (⟨#[44]⟩ : ByteArray) ++ dg n ++ tailB r
def bodyB : List Int → ByteArray
  | [] => ⟨#[]⟩
  | n :: r => dg n ++ tailB r
theorem tailB_size : ∀ r : List Int, (∀ n ∈ r, 0 ≤ n ∧ n < 32) → (tailB r).size ≤ 3 * r.length
  | [], _ => Nat.le_refl 0
  | n :: r, h => by
    have h1 := tailB_size r fun m hm => h m (by simp [hm])
    have h2 := (itoa_eq n (h n (by simp)).1 (h n (by simp)).2).2
    have h3 : (⟨#[44]⟩ : ByteArray).size = 1 := rfl
    simp only [tailB, ByteArray.size_append, List.length_cons]
    omega
theorem nil_app (b : ByteArray) : b ++ (⟨#[]⟩ : ByteArray) = b := by
  apply ByteArray.ext
  rw [ByteArray.data_append]
  simp
theorem rtext_loop : ∀ (rest pre : List Int) (k : Nat) (acc : ByteArray), pre ≠ [] → (∀ n ∈ rest, 0 ≤ n ∧ n < 32) → pre.length + rest.length ≤ 40 → acc.size ≤ 1000 * (pre.length + 1) → rest.length + 10 < k →
    fuglemanref05_Text.l0 k (pre ++ rest) acc (pre.length : Int) = some (acc ++ tailB rest ++ (⟨#[125]⟩ : ByteArray))
  | [], pre, k, acc, hp, _, hl, ha, hk => by
    obtain ⟨k, rfl⟩ : ∃ m, k = m + 1 := ⟨k - 1, by omega⟩
    simp only [fuglemanref05_Text.l0]
    rw [if_neg (by simp), if_pos (by omega)]
    simp only [tailB, nil_app]
  | n :: rest, pre, k, acc, hp, hr, hl, ha, hk => by
    obtain ⟨k, rfl⟩ : ∃ m, k = m + 1 := ⟨k - 1, by omega⟩
    simp only [List.length_cons] at hl hk
    obtain ⟨h0, h1⟩ := hr n (by simp)
    have hpl : 0 < pre.length := List.length_pos_iff.2 hp
    have hs := (itoa_eq n h0 h1).2
    have h3 : (⟨#[44]⟩ : ByteArray).size = 1 := rfl
    have e : pre ++ n :: rest = (pre ++ [n]) ++ rest := by simp
    have e2 : ((pre.length + 1 : Nat) : Int) = ((pre ++ [n]).length : Int) := by simp
    simp only [fuglemanref05_Text.l0]
    rw [if_pos (by simp; omega), if_pos (by omega), if_pos (by omega), if_pos (by omega), rd_pre, digits_eq n k h0 h1 (by omega), Option.bind_some, if_pos (by rw [ByteArray.size_append]; omega), w64succ _ (by omega), e, e2,
      rtext_loop rest (pre ++ [n]) k _ (by simp) (fun m hm => hr m (by simp [hm])) (by simp; omega) (by rw [ByteArray.size_append, ByteArray.size_append]; simp; omega) (by omega)]
    simp only [tailB, ByteArray.append_assoc]
theorem rText_eq (x k : Nat) (hx : Set32 x) (hk : 100 < k) : fuglemanref05_Text.f k (x : Int) = some ((⟨#[123]⟩ : ByteArray) ++ bodyB (elems x 0 32) ++ (⟨#[125]⟩ : ByteArray)) := by
  unfold fuglemanref05_Text.f
  rw [list_eq x k hx (by omega), Option.bind_some]
  have hlt := elems_lt x
  have hll := filter_len x
  generalize elems x 0 32 = l at *
  obtain ⟨k, rfl⟩ : ∃ m, k = m + 1 := ⟨k - 1, by omega⟩
  have h3 : (⟨#[123]⟩ : ByteArray).size = 1 := rfl
  cases l with
  | nil =>
    simp only [fuglemanref05_Text.l0]
    rw [if_neg (by simp), if_pos (by omega)]
    simp only [bodyB, nil_app]
  | cons n rest =>
    obtain ⟨h0, h1⟩ := hlt n (by simp)
    have hs := (itoa_eq n h0 h1).2
    simp only [List.length_cons] at hll
    have hrd : rd (n :: rest) 0 = n := rfl
    have h1' := rtext_loop rest [n] k ((⟨#[123]⟩ : ByteArray) ++ dg n) (by simp) (fun m hm => hlt m (by simp [hm])) (by simp; omega) (by rw [ByteArray.size_append]; simp; omega) (by omega)
    simp only [fuglemanref05_Text.l0]
    have hw : wrap64 (0 + 1) = (([n] : List Int).length : Int) := w64id 1 (by omega) (by omega)
    rw [if_pos (by simp <;> omega), if_neg (by omega), if_pos (by omega), hrd, hw, digits_eq n k h0 h1 (by omega), Option.bind_some, if_pos (by omega)]
    refine (show _ = _ from h1').trans ?_
    simp only [bodyB, ByteArray.append_assoc]
theorem mtext_loop : ∀ (rest pre : List Int) (k : Nat) (acc : List ByteArray), (∀ n ∈ rest, 0 ≤ n ∧ n < 32) → pre.length + rest.length ≤ 40 → acc.length = pre.length → rest.length + 10 < k →
    members_Text.l0 k acc (pre ++ rest) ((pre ++ rest).length : Int) (pre.length : Int) = members_Text.l0 1 (acc ++ rest.map dg) ([] : List Int) 0 0
  | [], pre, k, acc, _, hl, ha, hk => by
    obtain ⟨k, rfl⟩ : ∃ m, k = m + 1 := ⟨k - 1, by omega⟩
    simp only [members_Text.l0]
    rw [if_neg (by simp)]
    simp
  | n :: rest, pre, k, acc, hr, hl, ha, hk => by
    obtain ⟨k, rfl⟩ : ∃ m, k = m + 1 := ⟨k - 1, by omega⟩
    simp only [List.length_cons] at hl hk
    obtain ⟨h0, h1⟩ := hr n (by simp)
    have e : pre ++ n :: rest = (pre ++ [n]) ++ rest := by simp
    have e2 : ((pre.length + 1 : Nat) : Int) = ((pre ++ [n]).length : Int) := by simp
    rw [members_Text.l0]
    rw [if_pos (by simp; omega), if_pos (by omega), if_pos (by simp; omega), rd_pre, (itoa_eq n h0 h1).1, Option.bind_some, if_pos (by omega), w64succ _ (by omega), e, e2,
      mtext_loop rest (pre ++ [n]) k _ (fun m hm => hr m (by simp [hm])) (by simp; omega) (by simp; omega) (by omega)]
    simp
theorem join_tail : ∀ r : List Int, Lib.joinTail [44] ((r.map dg).map (·.data.toList)) = (tailB r).data.toList
  | [] => rfl
  | n :: r => by
    have h := join_tail r
    unfold Lib.joinTail at h ⊢
    simp only [List.map_cons, List.flatten_cons, h, tailB, ByteArray.data_append, Array.toList_append]
theorem join_body (l : List Int) : Lib.join ((l.map dg).map (·.data.toList)) [44] = (bodyB l).data.toList := by
  cases l with
  | nil => rfl
  | cons n r =>
    simp only [List.map_cons]
    rw [Lib.join_cons, join_tail]
    simp [bodyB]
theorem mText_eq (x k : Nat) (hx : Set32 x) (hk : 100 < k) : members_Text.f k (x : Int) = some ((⟨#[123]⟩ : ByteArray) ++ bodyB (elems x 0 32) ++ (⟨#[125]⟩ : ByteArray)) := by
  unfold members_Text.f
  rw [mList_eq x k hx (by omega), Option.bind_some]
  have hlt := elems_lt x
  have hll := filter_len x
  generalize elems x 0 32 = l at *
  have h1 := mtext_loop l [] k [] hlt (by simp; omega) rfl (by omega)
  refine (show _ = _ from h1).trans ?_
  have hb : (bodyB l).size ≤ 100 := by
    cases l with
    | nil => exact Nat.zero_le _
    | cons n r =>
      have h2 := (itoa_eq n (hlt n (by simp)).1 (hlt n (by simp)).2).2
      have h3 := tailB_size r fun m hm => hlt m (by simp [hm])
      simp only [List.length_cons] at hll
      simp only [bodyB, ByteArray.size_append]
      omega
  have h3 : (⟨#[123]⟩ : ByteArray).size = 1 := rfl
  have hj : strings_Join.f (l.map dg) (⟨#[44]⟩ : ByteArray) = some (bodyB l) := by
    unfold strings_Join.f
    have e : Lib.join ((l.map dg).map (·.data.toList)) (⟨#[44]⟩ : ByteArray).data.toList = (bodyB l).data.toList := join_body l
    rw [e, if_pos ⟨by rw [List.length_map]; omega, by rw [Array.length_toList]; have : (bodyB l).data.size = (bodyB l).size := rfl; omega⟩]
  simp only [members_Text.l0, List.nil_append]
  rw [if_neg (by omega), hj, Option.bind_some, if_pos (by omega), if_pos (by rw [ByteArray.size_append]; omega)]
theorem sets_law (x : Nat) (a : Int) (hx : Set32 x) : fuglemanlaw05_MembersSets.f 200 (x : Int) a = some true := by
  have hll := filter_len x
  unfold fuglemanlaw05_MembersSets.f
  rw [show fuglemanlaw05_awake.f 200 = some true by decide +kernel, Option.bind_some, if_pos rfl, list_eq x 200 hx (by omega), Option.bind_some, mHas_eq x a hx, Option.bind_some, rHas_eq x 200 a hx (by omega), Option.bind_some,
    if_pos (by simp), mWith_eq x a hx, Option.bind_some, rWith_eq x 200 a hx (by omega), Option.bind_some, if_pos rfl, mWithout_eq x a hx, Option.bind_some, rWithout_eq x 200 a hx (by omega), Option.bind_some, if_pos rfl,
    mList_eq x 200 hx (by omega), Option.bind_some, list_refl _ 200 (by omega) (by omega), Option.bind_some, if_pos rfl, mLen_eq x hx, Option.bind_some, if_pos rfl,
    mText_eq x 200 hx (by omega), Option.bind_some, rText_eq x 200 hx (by omega), Option.bind_some, if_pos rfl, rOf_eq x 200 hx (by omega), Option.bind_some]
  simp
end Go.Proofs.YtmehafolnpkmhaaDoor.PMem
