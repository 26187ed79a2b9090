/- Plain: what was written is read again. -/
import Derived.Test.YtpkgpffodkfncaaOctPlain
import Derived.Test.YtpkgpffodkfncaaOctLaw
namespace Go.Proofs.Ytpkgpffodkfncaa
theorem oct_take_at (L M R : List UInt8) (S : ByteArray) (hS : S = ⟨(L ++ (M ++ R)).toArray⟩) :
    Oct.take S L.length false (M.length : Int) = (⟨M.toArray⟩, L.length + M.length, false) := by
  subst hS
  unfold Oct.take
  have hsz : (⟨(L ++ (M ++ R)).toArray⟩ : ByteArray).size = L.length + (M.length + R.length) := by
    show (L ++ (M ++ R)).toArray.size = _
    simp
  rw [if_neg (by rw [hsz]; simp; omega)]
  refine Prod.ext ?_ (Prod.ext (by simp) rfl)
  apply ext_bytes
  rw [ByteArray.data_extract, Array.toList_extract]
  simp [List.extract]
theorem encs_split (xs : List Item) (k : Nat) (h : k < xs.length) : encs xs = encs (xs.take k) ++ (xs[k].enc ++ encs (xs.drop (k + 1))) := by
  have e : xs = xs.take k ++ (xs[k] :: xs.drop (k + 1)) := by
    rw [← List.drop_eq_getElem_cons h, List.take_append_drop]
  refine (congrArg encs e).trans ?_
  unfold encs
  rw [List.flatMap_append, List.flatMap_cons]
theorem num_bts1 (n : Nat) : Oct.num (Oct.bts (n % 256) 1) % 256 = n % 256 := by
  simp [Oct.num, Oct.bts]
theorem num_bts2 (n : Nat) : Oct.num (Oct.bts (n % 65536) 2) % 65536 = n % 65536 := by
  simp [Oct.num, Oct.bts]
  omega
theorem num_bts4 (n : Nat) (h : n < 4294967296) : Oct.num (Oct.bts n 4) = n := by
  simp [Oct.num, Oct.bts]
  omega
theorem oct_small_at (L R : List UInt8) (s S : ByteArray) (h : s.size ≤ 255) (hS : S = ⟨(L ++ ((UInt8.ofNat s.size :: s.data.toList) ++ R)).toArray⟩) :
    Oct.small S L.length false = (s, L.length + (UInt8.ofNat s.size :: s.data.toList).length, false) := by
  have h1 := oct_take_at L [UInt8.ofNat s.size] (s.data.toList ++ R) S (by rw [hS]; simp)
  have h2 := oct_take_at (L ++ [UInt8.ofNat s.size]) s.data.toList R S (by rw [hS]; simp)
  have e1 : (([UInt8.ofNat s.size] : List UInt8).length : Int) = 1 := rfl
  rw [e1] at h1
  unfold Oct.small
  rw [h1]
  dsimp only
  have e2 : Oct.num [UInt8.ofNat s.size] % 256 = s.data.toList.length := by
    have : s.data.toList.length = s.size := by simp
    rw [this]
    simp [Oct.num]
    omega
  rw [e2]
  have e3 : L.length + ([UInt8.ofNat s.size] : List UInt8).length = (L ++ [UInt8.ofNat s.size]).length := by simp
  rw [e3, h2]
  refine Prod.ext ?_ (Prod.ext ?_ rfl)
  · apply ext_bytes; rfl
  · simp; omega
theorem oct_take_none (S : ByteArray) (a : Nat) (h : S.size = a) : Oct.take S a false 1 = (⟨#[]⟩, a, true) := by
  unfold Oct.take
  rw [if_pos (by right; right; omega)]
end Go.Proofs.Ytpkgpffodkfncaa
