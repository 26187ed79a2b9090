/- Plain laws on bursts: what is turned, and that it is found. -/
import Derived.Test.YtpkgpffodkfncaaCrcPlain2
namespace Go.Proofs.Ytpkgpffodkfncaa.Crc
/-! ### 1. A burst, place by place -/
theorem part_getElem (l : List UInt8) (a p k i : Nat) (h : i < (part l a p k).length) :
    (part l a p k)[i] = if a / 8 ≤ i ∧ i < a / 8 + k then l[i]'(by rw [part_length] at h; exact h) ^^^ mask a p (i - a / 8) else l[i]'(by rw [part_length] at h; exact h) := by
  simp only [part, List.getElem_mapIdx]
theorem part_twice (l : List UInt8) (a p k : Nat) : part (part l a p k) a p k = l := by
  apply List.ext_getElem
  · simp [part_length]
  · intro i h1 h2
    rw [part_getElem]
    simp only [part_getElem]
    split
    · rw [UInt8.xor_assoc, UInt8.xor_self, UInt8.xor_zero]
    · rfl
theorem burst_size (s : ByteArray) (at_ : Int) (p : Nat) : (burst s at_ p).size = s.size := by
  unfold burst
  split
  · rfl
  · show (part s.data.toList at_.toNat p 3).toArray.size = s.size
    simp [part_length]
theorem burst_twice (s : ByteArray) (at_ : Int) (p : Nat) : burst (burst s at_ p) at_ p = s := by
  by_cases h : at_ < 0 ∨ 8 * (s.size : Int) ≤ at_
  · rw [burst_out s at_ p h, burst_out s at_ p h]
  · have e : burst s at_ p = ⟨(part s.data.toList at_.toNat p 3).toArray⟩ := by rw [burst, if_neg h]
    have hs := burst_size s at_ p
    rw [burst, hs, if_neg h, e]
    show (⟨(part (part s.data.toList at_.toNat p 3) at_.toNat p 3).toArray⟩ : ByteArray) = s
    rw [part_twice]
/-! ### 2. The reference's, bit by bit -/
/-- What the first k bits turn at byte j of the burst. -/
def fm (r p j : Nat) : Nat → Nat
  | 0 => 0
  | k + 1 => if p / 2 ^ (15 - k) % 2 = 1 ∧ (r + k) / 8 = j then fm r p j k ^^^ 2 ^ (7 - (r + k) % 8) else fm r p j k
theorem fm_lt (r p j k : Nat) : fm r p j k < 256 := by
  induction k with
  | zero => exact (by decide : (0 : Nat) < 256)
  | succ k ih =>
    unfold fm
    split
    · exact Nat.xor_lt_two_pow (n := 8) ih (Nat.pow_lt_pow_right (by decide) (by omega))
    · exact ih
theorem fm_lin (r x y j k : Nat) : fm r (x ^^^ y) j k = fm r x j k ^^^ fm r y j k := by
  induction k with
  | zero => simp [fm]
  | succ k ih =>
    unfold fm
    rw [ih, div_pow_xor]
    have hx : (x / 2 ^ (15 - k) ^^^ y / 2 ^ (15 - k)) % 2 = x / 2 ^ (15 - k) % 2 ^^^ y / 2 ^ (15 - k) % 2 := mod_pow_xor 1 _ _
    rw [hx]
    by_cases hj : (r + k) / 8 = j
    · have h1 : x / 2 ^ (15 - k) % 2 = 0 ∨ x / 2 ^ (15 - k) % 2 = 1 := by omega
      have h2 : y / 2 ^ (15 - k) % 2 = 0 ∨ y / 2 ^ (15 - k) % 2 = 1 := by omega
      generalize fm r x j k = a
      generalize fm r y j k = b
      generalize 2 ^ (7 - (r + k) % 8) = c
      rcases h1 with h1 | h1 <;> rcases h2 with h2 | h2 <;> rw [h1, h2] <;> simp [hj]
      · rw [Nat.xor_assoc]
      · rw [Nat.xor_assoc, Nat.xor_assoc, Nat.xor_comm b c]
      · rw [xor_swap, Nat.xor_self, Nat.xor_zero]
    · simp [hj]
theorem fm_basis : ∀ r : Fin 8, ∀ j : Fin 3, ∀ i : Fin 16, fm r.val (2 ^ i.val) j.val 16 = 2 ^ i.val * 2 ^ (8 - r.val) / 2 ^ (16 - 8 * j.val) % 256 := by decide +kernel
theorem fm_mask (r p j : Nat) (hr : r < 8) (hj : j < 3) (hp : p < 65536) : fm r p j 16 = p * 2 ^ (8 - r) / 2 ^ (16 - 8 * j) % 256 :=
  lin_ext 16 (fun p => fm r p j 16) (fun p => p * 2 ^ (8 - r) / 2 ^ (16 - 8 * j) % 256) (fun x y _ _ => fm_lin r x y j 16)
    (fun x y _ _ => by
      show (x ^^^ y) * 2 ^ (8 - r) / 2 ^ (16 - 8 * j) % 256 = _
      rw [mul_pow_xor, div_pow_xor]
      exact mod_pow_xor 8 _ _) (fun i hi => fm_basis ⟨r, hr⟩ ⟨j, hj⟩ ⟨i, hi⟩) 16 (Nat.le_refl _) p hp
theorem fm_far (r p j k : Nat) (hr : r < 8) (hj : 3 ≤ j) (hk : k ≤ 16) : fm r p j k = 0 := by
  induction k with
  | zero => rfl
  | succ k ih =>
    unfold fm
    rw [if_neg (by omega)]
    exact ih (by omega)
theorem flips_getElem (l : List UInt8) (a p k i : Nat) (h : i < (flips l a p k).length) :
    (flips l a p k)[i] = l[i]'(by rw [flips_length] at h; exact h) ^^^ UInt8.ofNat (if a / 8 ≤ i then fm (a % 8) p (i - a / 8) k else 0) := by
  induction k with
  | zero => simp [flips, fm]
  | succ k ih =>
    have hi : i < l.length := by rw [flips_length] at h; exact h
    have hik : i < (flips l a p k).length := by rw [flips_length]; exact hi
    have hq : (a + k) / 8 = a / 8 + (a % 8 + k) / 8 := by omega
    have hr : (a + k) % 8 = (a % 8 + k) % 8 := by omega
    by_cases hbit : p / 2 ^ (15 - k) % 2 = 1
    · by_cases hin : k < 8 * l.length - a
      · have e : flips l a p (k + 1) = (flips l a p k).set ((a + k) / 8) ((flips l a p k).getD ((a + k) / 8) 0 ^^^ UInt8.ofNat (2 ^ (7 - (a + k) % 8))) := by
          rw [flips, if_pos ⟨hbit, hin⟩]
        simp only [e, List.getElem_set]
        by_cases hpl : (a + k) / 8 = i
        · rw [if_pos hpl, hpl, List.getD_eq_getElem?_getD, List.getElem?_eq_getElem hik, Option.getD_some, ih hik, if_pos (by omega), if_pos (by omega), UInt8.xor_assoc]
          congr 1
          rw [fm, if_pos ⟨hbit, by omega⟩, hr]
          apply UInt8.toNat_inj.1
          have h1 := fm_lt (a % 8) p (i - a / 8) k
          have h2 : 2 ^ (7 - (a % 8 + k) % 8) < 256 := show 2 ^ (7 - (a % 8 + k) % 8) < 2 ^ 8 from Nat.pow_lt_pow_right (by decide) (by omega)
          have h3 : fm (a % 8) p (i - a / 8) k ^^^ 2 ^ (7 - (a % 8 + k) % 8) < 256 := Nat.xor_lt_two_pow (n := 8) h1 h2
          rw [UInt8.toNat_xor, UInt8.toNat_ofNat', UInt8.toNat_ofNat', UInt8.toNat_ofNat', Nat.mod_eq_of_lt h1, Nat.mod_eq_of_lt h2, Nat.mod_eq_of_lt h3]
        · rw [if_neg hpl, ih hik]
          congr 2
          by_cases hle : a / 8 ≤ i
          · rw [if_pos hle, if_pos hle, fm, if_neg (by omega)]
          · rw [if_neg hle, if_neg hle]
      · have e : flips l a p (k + 1) = flips l a p k := by rw [flips, if_neg (fun hh => hin hh.2)]
        simp only [e]
        rw [ih hik]
        congr 2
        by_cases hle : a / 8 ≤ i
        · rw [if_pos hle, if_pos hle, fm, if_neg (by omega)]
        · rw [if_neg hle, if_neg hle]
    · have e : flips l a p (k + 1) = flips l a p k := by rw [flips, if_neg (fun hh => hbit hh.1)]
      simp only [e]
      rw [ih hik]
      congr 2
      by_cases hle : a / 8 ≤ i
      · rw [if_pos hle, if_pos hle, fm, if_neg (fun hh => hbit hh.1)]
      · rw [if_neg hle, if_neg hle]
theorem flips_eq (l : List UInt8) (a p : Nat) (hp : p < 65536) : flips l a p 16 = part l a p 3 := by
  apply List.ext_getElem
  · rw [flips_length, part_length]
  · intro i h1 h2
    rw [flips_getElem, part_getElem]
    by_cases hle : a / 8 ≤ i
    · rw [if_pos hle]
      by_cases h3 : i < a / 8 + 3
      · rw [if_pos ⟨hle, h3⟩, fm_mask _ _ _ (Nat.mod_lt _ (by decide)) (by omega) hp, mask]
        congr 1
        apply UInt8.toNat_inj.1
        rw [UInt8.toNat_ofNat', UInt8.toNat_ofNat']
        omega
      · rw [if_neg (fun hh => h3 hh.2), fm_far _ _ _ _ (Nat.mod_lt _ (by decide)) (by omega) (Nat.le_refl _)]
        simp
    · rw [if_neg hle, if_neg (fun hh => hle hh.1)]
      simp
theorem rburst_eq (s : ByteArray) (at_ : Int) (p : Nat) (hp : p < 65536) : rburst s at_ p = burst s at_ p := by
  unfold rburst burst
  rw [flips_eq _ _ _ hp]
/-! ### 3. A burst that turns something is found -/
theorem zero_byte {c : UInt8} (h : c.toNat = 0) : c = 0 := UInt8.toNat_inj.1 h
theorem u8_xor_zero (x : UInt8) {c : UInt8} (h : c.toNat = 0) : x ^^^ c = x := by
  rw [zero_byte h, UInt8.xor_zero]
/-- The first bytes turned by three. -/
def front (m0 m1 m2 : UInt8) : List UInt8 → List UInt8
  | [] => []
  | [x] => [x ^^^ m0]
  | [x, y] => [x ^^^ m0, y ^^^ m1]
  | x :: y :: z :: r => (x ^^^ m0) :: (y ^^^ m1) :: (z ^^^ m2) :: r
def from_ (m0 m1 m2 : UInt8) : Nat → List UInt8 → List UInt8
  | 0, l => front m0 m1 m2 l
  | _ + 1, [] => []
  | q + 1, c :: l => c :: from_ m0 m1 m2 q l
theorem step_xor (s d : Nat) (c e : UInt8) : step (s ^^^ d) (c ^^^ e).toNat = step s c.toNat ^^^ step d e.toNat := by
  rw [UInt8.toNat_xor, step_lin]
theorem more_diff (s d : Nat) (r : List UInt8) : more (s ^^^ d) r = more s r ^^^ zs d r.length := by
  induction r generalizing s d with
  | nil => rfl
  | cons c r ih =>
    have e := step_lin s d c.toNat 0
    rw [Nat.xor_zero] at e
    rw [more_cons, more_cons, e, ih]
    rfl
theorem xor_eq_self {a b : Nat} (h : a ^^^ b = a) : b = 0 := by
  have := congrArg (a ^^^ ·) h
  simpa [← Nat.xor_assoc] using this
theorem front_found (m0 m1 m2 : UInt8) (h3 : step (step (step 0 m0.toNat) m1.toNat) m2.toNat = 0 → m0.toNat = 0 ∧ m1.toNat = 0 ∧ m2.toNat = 0) (s : Nat) (l : List UInt8)
    (h : more s (front m0 m1 m2 l) = more s l) : front m0 m1 m2 l = l := by
  have x0 : ∀ x : UInt8, step s (x ^^^ m0).toNat = step s x.toNat ^^^ step 0 m0.toNat := fun x => by
    have := step_xor s 0 x m0
    rw [Nat.xor_zero] at this
    exact this
  match l with
  | [] => rfl
  | [x] =>
    simp only [front, more_cons, more_nil, x0] at h
    have := one_byte (UInt8.toNat_lt m0) (xor_eq_self h)
    simp only [front, u8_xor_zero x this]
  | [x, y] =>
    simp only [front, more_cons, more_nil, x0, step_xor] at h
    have := two_bytes (UInt8.toNat_lt m0) (UInt8.toNat_lt m1) (xor_eq_self h)
    simp only [front, u8_xor_zero x this.1, u8_xor_zero y this.2]
  | x :: y :: z :: r =>
    simp only [front, more_cons, x0, step_xor] at h
    rw [more_diff] at h
    have hz := h3 (zs_zero (step_lt _ _) _ (xor_eq_self h))
    simp only [front, u8_xor_zero x hz.1, u8_xor_zero y hz.2.1, u8_xor_zero z hz.2.2]
theorem from_found (m0 m1 m2 : UInt8) (h3 : step (step (step 0 m0.toNat) m1.toNat) m2.toNat = 0 → m0.toNat = 0 ∧ m1.toNat = 0 ∧ m2.toNat = 0) :
    ∀ (q s : Nat) (l : List UInt8), more s (from_ m0 m1 m2 q l) = more s l → from_ m0 m1 m2 q l = l
  | 0, s, l, h => front_found m0 m1 m2 h3 s l h
  | _ + 1, _, [], _ => rfl
  | q + 1, s, c :: l, h => by
    rw [from_, from_found m0 m1 m2 h3 q (step s c.toNat) l h]
theorem front_getElem? (m0 m1 m2 : UInt8) (l : List UInt8) (i : Nat) : (front m0 m1 m2 l)[i]? = l[i]?.map fun x => if i = 0 then x ^^^ m0 else if i = 1 then x ^^^ m1 else if i = 2 then x ^^^ m2 else x := by
  match l with
  | [] => simp [front]
  | [x] => match i with
    | 0 => simp [front]
    | i + 1 => simp [front]
  | [x, y] => match i with
    | 0 => simp [front]
    | 1 => simp [front]
    | i + 2 => simp [front]
  | x :: y :: z :: r => match i with
    | 0 => simp [front]
    | 1 => simp [front]
    | 2 => simp [front]
    | i + 3 => simp [front]
theorem from_getElem? (m0 m1 m2 : UInt8) : ∀ (q : Nat) (l : List UInt8) (i : Nat), (from_ m0 m1 m2 q l)[i]? = l[i]?.map fun x => if i = q then x ^^^ m0 else if i = q + 1 then x ^^^ m1 else if i = q + 2 then x ^^^ m2 else x
  | 0, l, i => by simpa [from_] using front_getElem? m0 m1 m2 l i
  | q + 1, [], i => by simp [from_]
  | q + 1, c :: l, 0 => by simp [from_]
  | q + 1, c :: l, i + 1 => by
    simp only [from_, List.getElem?_cons_succ, from_getElem? m0 m1 m2 q l i]
    congr 1
    funext x
    simp
theorem part_from (l : List UInt8) (a p : Nat) : part l a p 3 = from_ (mask a p 0) (mask a p 1) (mask a p 2) (a / 8) l := by
  apply List.ext_getElem?
  intro i
  rw [from_getElem?]
  simp only [part, List.getElem?_mapIdx]
  congr 1
  funext x
  by_cases h0 : i = a / 8
  · subst h0; simp
  · rw [if_neg h0]
    by_cases h1 : i = a / 8 + 1
    · subst h1; simp
    · rw [if_neg h1]
      by_cases h2 : i = a / 8 + 2
      · subst h2; simp
      · rw [if_neg h2, if_neg (by omega)]
theorem masks_zero (a p : Nat) (hp : p < 65536) (h : step (step (step 0 (mask a p 0).toNat) (mask a p 1).toNat) (mask a p 2).toNat = 0) :
    (mask a p 0).toNat = 0 ∧ (mask a p 1).toNat = 0 ∧ (mask a p 2).toNat = 0 := by
  have e : ∀ k, (mask a p k).toNat = p * 2 ^ (8 - a % 8) / 2 ^ (16 - 8 * k) % 256 := fun k => by
    rw [mask, UInt8.toNat_ofNat']
  rw [e 0, e 1, e 2] at h ⊢
  have hp0 := over3_zero (Nat.mod_lt a (by decide : 8 > 0)) hp h
  subst hp0
  simp
theorem part_found (l : List UInt8) (a p : Nat) (hp : p < 65536) (s : Nat) (h : more s (part l a p 3) = more s l) : part l a p 3 = l := by
  rw [part_from] at h ⊢
  exact from_found _ _ _ (masks_zero a p hp) _ _ _ h
theorem burst_found (t : ByteArray) (at_ : Int) (p : Nat) (hp : p < 65536) (h0 : more 65535 t.data.toList = 0) (h : burst t at_ p ≠ t) : more 65535 (burst t at_ p).data.toList ≠ 0 := by
  intro hz
  apply h
  by_cases hc : at_ < 0 ∨ 8 * (t.size : Int) ≤ at_
  · exact burst_out t at_ p hc
  · have e : burst t at_ p = ⟨(part t.data.toList at_.toNat p 3).toArray⟩ := by rw [burst, if_neg hc]
    rw [e] at hz ⊢
    have := part_found t.data.toList at_.toNat p hp 65535 (by rw [h0]; exact hz)
    rw [this]
/-! ### 4. What is opened -/
theorem two_list (u : Nat) (hu : u < 65536) : (two u).data.toList = [UInt8.ofNat (u / 256), UInt8.ofNat (u % 256)] := by
  rw [two, strOfNums_data]
  simp only [List.map_cons, List.map_nil]
  rw [show ((u : Int) / 256).toNat = u / 256 from by omega, show ((u : Int) % 256).toNat = u % 256 from by omega]
theorem seal_more (l : List UInt8) (u : Nat) (hu : u < 65536) (h : more 65535 l = u) : more 65535 (l ++ [UInt8.ofNat (u / 256), UInt8.ofNat (u % 256)]) = 0 := by
  rw [more_append, h, more_cons, more_cons, more_nil, UInt8.toNat_ofNat', UInt8.toNat_ofNat', Nat.mod_eq_of_lt (a := u / 256) (by omega), Nat.mod_eq_of_lt (a := u % 256) (by omega)]
  exact seal_zero hu
theorem sealed_list (s : ByteArray) : (sealed s).data.toList = s.data.toList ++ [UInt8.ofNat (more 65535 s.data.toList / 256), UInt8.ofNat (more 65535 s.data.toList % 256)] := by
  have := more_lt 65535 (by decide) s.data.toList
  rw [sealed, ByteArray.data_append, Array.toList_append, two_list _ this]
theorem sealed_size (s : ByteArray) : (sealed s).size = s.size + 2 := by
  have := congrArg List.length (sealed_list s)
  simpa using this
theorem sealed_zero (s : ByteArray) : more 65535 (sealed s).data.toList = 0 := by
  rw [sealed_list]
  exact seal_more _ _ (more_lt 65535 (by decide) _) rfl
theorem extract_list (s : ByteArray) (n : Nat) : (s.extract 0 n).data.toList = s.data.toList.take n := by
  simp [ByteArray.data_extract]
theorem ext_list {s t : ByteArray} (h : s.data.toList = t.data.toList) : s = t := by
  cases s; cases t
  simp only at h
  congr
  exact Array.toList_inj.1 h
theorem open_sealed (s : ByteArray) : opened (sealed s) = (s, true) := by
  rw [opened_yes _ (by rw [sealed_size]; omega) (sealed_zero s)]
  congr 1
  apply ext_list
  rw [extract_list, sealed_size, sealed_list]
  simp
theorem open_just (s : ByteArray) (h2 : 2 ≤ s.size) : more 65535 s.data.toList = 0 ↔ sealed (s.extract 0 (s.size - 2)) = s := by
  constructor
  · intro h
    have hlen : s.data.toList.length = s.size := by simp
    obtain ⟨x, y, hxy⟩ : ∃ x y, s.data.toList = s.data.toList.take (s.size - 2) ++ [x, y] := by
      have hd : (s.data.toList.drop (s.size - 2)).length = 2 := by simp; omega
      match hq : s.data.toList.drop (s.size - 2), hd with
      | [x, y], _ => exact ⟨x, y, by rw [← hq, List.take_append_drop]⟩
    have hu := more_lt 65535 (by decide) (s.data.toList.take (s.size - 2))
    have hz := seal_more (s.data.toList.take (s.size - 2)) _ hu rfl
    have h' := h
    rw [hxy, more_append] at h'
    rw [more_append] at hz
    generalize hU : more 65535 (s.data.toList.take (s.size - 2)) = u at *
    have ex : x = UInt8.ofNat (u / 256) ^^^ (x ^^^ UInt8.ofNat (u / 256)) := by
      rw [UInt8.xor_comm x, ← UInt8.xor_assoc, UInt8.xor_self, UInt8.zero_xor]
    have ey : y = UInt8.ofNat (u % 256) ^^^ (y ^^^ UInt8.ofNat (u % 256)) := by
      rw [UInt8.xor_comm y, ← UInt8.xor_assoc, UInt8.xor_self, UInt8.zero_xor]
    rw [ex, ey, more_cons, more_cons, more_nil] at h'
    have e1 := step_xor u 0 (UInt8.ofNat (u / 256)) (x ^^^ UInt8.ofNat (u / 256))
    rw [Nat.xor_zero] at e1
    rw [e1, step_xor] at h'
    rw [more_cons, more_cons, more_nil] at hz
    rw [hz, Nat.zero_xor] at h'
    have ⟨z1, z2⟩ := two_bytes (UInt8.toNat_lt _) (UInt8.toNat_lt _) h'
    have zx : x = UInt8.ofNat (u / 256) := by rw [ex, u8_xor_zero _ z1]
    have zy : y = UInt8.ofNat (u % 256) := by rw [ey, u8_xor_zero _ z2]
    apply ext_list
    rw [sealed_list, extract_list, hU, ← zx, ← zy]
    exact hxy.symm
  · intro h
    rw [← h]
    exact sealed_zero _
end Go.Proofs.Ytpkgpffodkfncaa.Crc
