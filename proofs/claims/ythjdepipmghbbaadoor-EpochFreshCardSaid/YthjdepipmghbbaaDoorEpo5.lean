/- strconv.Itoa, strconv.ParseUint and strings.Split off the laid variables, in the walks' words. -/
import Derived.Test.YthjdepipmghbbaaDoorLaid5
namespace Go.Proofs.YthjdepipmghbbaaDoor
open Go.RowKit
theorem below_grow5 (B : Nat) (w : World) (hB : B ≤ w.heap.size) (k : Nat) (os : Array Obj) : Below B w (Sort.grow (w.drewN k) os) :=
  ⟨rfl, rfl, rfl, by simp [Sort.grow], fun i hi => by
    show (w.heap ++ os)[i]? = w.heap[i]?
    rw [Array.getElem?_append_left (by omega)]⟩
theorem itoa_any (n : Int) (h0 : 0 ≤ n) (h1 : n ≤ 9223372036854775807) (w : World) (hG : LaidW w) :
    Calls Tryd.prog 26 #[.int .i64 n] w fun e w' => e = .returned (.string ⟨(Lib.itoa n).toArray⟩) ∧ Below w.heap.size w w' := by
  refine (Tryd.strconv_Itoa n (by omega) h1 w hG.tab).mono ?_
  rintro e w' ⟨he, k, os, rfl⟩
  exact ⟨he, below_grow5 _ _ (Nat.le_refl _) k os⟩
/-- The number that a text of digits spells, if B bits hold it. -/
def numOf (B : Nat) (s : ByteArray) : Option Nat := match Lib.parseUintB B s.data.toList with | .ok u => some u | _ => none
/-- What ParseUint returns beside the number. -/
def ErrIs (ok : Bool) (v : Value) : Prop := if ok then v = .nilIface else ∃ u p, v = .iface u p
theorem below_bytes5 (w : World) (t : TypeId) (s : ByteArray) : Below w.heap.size w (Lib.bytesWorld w t s) := Lib.bytesWorld_below _ _ _
theorem parse16_any (s : ByteArray) (hs : s.size ≤ 1000) (w : World) (hG : LaidW w) :
    Calls Tryd.prog 25 #[.string s, .int .i64 10, .int .i64 16] w fun e w' => ∃ (u : Int) (v : Value), e = .returned (.tuple #[.int .u64 u, v]) ∧ ErrIs (numOf 16 s).isSome v ∧ (∀ n, numOf 16 s = some n → u = n) ∧ Below w.heap.size w w' := by
  unfold numOf
  cases h : Lib.parseUintB 16 s.data.toList with
  | ok u =>
    refine (Tryd.strconv_ParseUint_10_at16_ok s (by omega) u h w).mono ?_
    rintro e w' ⟨rfl, hw⟩
    refine ⟨u, _, rfl, rfl, fun n hn => by injection hn with hn; rw [hn], ?_⟩
    rcases hw with rfl | rfl
    · exact Below.refl _ _
    · exact below_bytes5 _ _ _
  | «syntax» =>
    obtain ⟨a, b, hv⟩ := hG.syn
    refine (Tryd.strconv_ParseUint_10_at16_syntax s (by omega) h _ w hv (.inr ⟨_, _, rfl⟩)).mono ?_
    rintro e w' ⟨N, rfl, _, _, hb⟩
    exact ⟨_, _, rfl, ⟨_, _, rfl⟩, fun n hn => by simp at hn, hb⟩
  | range =>
    obtain ⟨a, b, hv⟩ := hG.rng
    refine (Tryd.strconv_ParseUint_10_at16_range s (by omega) h _ w hv (.inr ⟨_, _, rfl⟩)).mono ?_
    rintro e w' ⟨N, rfl, _, _, hb⟩
    exact ⟨_, _, rfl, ⟨_, _, rfl⟩, fun n hn => by simp at hn, hb⟩
theorem parse8_any (s : ByteArray) (hs : s.size ≤ 1000) (w : World) (hG : LaidW w) :
    Calls Tryd.prog 25 #[.string s, .int .i64 10, .int .i64 8] w fun e w' => ∃ (u : Int) (v : Value), e = .returned (.tuple #[.int .u64 u, v]) ∧ ErrIs (numOf 8 s).isSome v ∧ (∀ n, numOf 8 s = some n → u = n) ∧ Below w.heap.size w w' := by
  unfold numOf
  cases h : Lib.parseUintB 8 s.data.toList with
  | ok u =>
    refine (Tryd.strconv_ParseUint_10_at8_ok s (by omega) u h w).mono ?_
    rintro e w' ⟨rfl, hw⟩
    refine ⟨u, _, rfl, rfl, fun n hn => by injection hn with hn; rw [hn], ?_⟩
    rcases hw with rfl | rfl
    · exact Below.refl _ _
    · exact below_bytes5 _ _ _
  | «syntax» =>
    obtain ⟨a, b, hv⟩ := hG.syn
    refine (Tryd.strconv_ParseUint_10_at8_syntax s (by omega) h _ w hv (.inr ⟨_, _, rfl⟩)).mono ?_
    rintro e w' ⟨N, rfl, _, _, hb⟩
    exact ⟨_, _, rfl, ⟨_, _, rfl⟩, fun n hn => by simp at hn, hb⟩
  | range =>
    obtain ⟨a, b, hv⟩ := hG.rng
    refine (Tryd.strconv_ParseUint_10_at8_range s (by omega) h _ w hv (.inr ⟨_, _, rfl⟩)).mono ?_
    rintro e w' ⟨N, rfl, _, _, hb⟩
    exact ⟨_, _, rfl, ⟨_, _, rfl⟩, fun n hn => by simp at hn, hb⟩
/-- The parts of a text between points. -/
def partsOf (s : ByteArray) : List ByteArray := Lib.splitB (⟨#[46]⟩ : ByteArray) 0 (Lib.countB s (⟨#[46]⟩ : ByteArray)) s
theorem split_any (s : ByteArray) (hs : s.size ≤ 1000) (w : World) (hG : LaidW w) :
    Calls Tryd.prog 24 #[.string s, .string ⟨#[46]⟩] w fun e w' =>
      e = .returned (.slice (some ⟨w.heap.size, 0, none⟩) (Lib.countB s (⟨#[46]⟩ : ByteArray) + 1) (Lib.countB s (⟨#[46]⟩ : ByteArray) + 1)) ∧ w' = w.alloc (.cells ((partsOf s).map Value.string).toArray 9) := by
  obtain ⟨m, hm⟩ := hG.max
  exact Tryd.strings_Split s (⟨#[46]⟩ : ByteArray) m w (by omega) hm (by decide)
theorem numOf_bd (B : Nat) (hB : B = 8 ∨ B = 16) (s : ByteArray) (n : Nat) (h : numOf B s = some n) : n ≤ 2 ^ B - 1 := by
  unfold numOf Lib.parseUintB at h
  split at h
  · next u hu =>
    injection h with h
    subst h
    split at hu
    · cases hu
    · exact Lib.parseUintM_le _ _ 0 _ (Nat.zero_le _) hu
  · cases h
theorem splitB_sizes (sep : ByteArray) : ∀ (k : Nat) (s : ByteArray), ∀ p ∈ Lib.splitB sep 0 k s, p.size ≤ s.size
  | 0, s, p, hp => by
    rw [Lib.splitB_zero] at hp
    simp at hp
    rw [hp]; exact Nat.le_refl _
  | k + 1, s, p, hp => by
    rcases Lib.indexB_cases s sep with h | ⟨i, h, hr⟩
    · rw [Lib.splitB_miss sep 0 _ s h] at hp
      simp at hp
      rw [hp]; exact Nat.le_refl _
    · rw [Lib.splitB_hit sep 0 k s i h] at hp
      rcases List.mem_cons.1 hp with rfl | hp
      · rw [ByteArray.size_extract]; omega
      · have := splitB_sizes sep k _ p hp
        rw [ByteArray.size_extract] at this
        omega
theorem partsOf_sizes (s p : ByteArray) (h : p ∈ partsOf s) : p.size ≤ s.size := splitB_sizes _ _ _ _ h
theorem partsOf_length (s : ByteArray) : (partsOf s).length = Lib.countB s (⟨#[46]⟩ : ByteArray) + 1 := Lib.splitB_all _ (by decide) 0 _ s rfl
end Go.Proofs.YthjdepipmghbbaaDoor
