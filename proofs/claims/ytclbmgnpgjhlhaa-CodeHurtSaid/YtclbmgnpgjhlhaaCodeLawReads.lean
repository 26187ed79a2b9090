/- The law CodeReads: any bytes are decoded as the document says; what can be decoded is that program's bytes. -/
import Derived.Test.YtclbmgnpgjhlhaaCodePure3
import Derived.Test.YtclbmgnpgjhlhaaCodeLawMakes
namespace Go.Proofs.Ytclbmgnpgjhlhaa.PCode
open Go.RowKit Go.Proofs.YtclbmgnpgjhlhaaW.PrintWords Go.Proofs.YtclbmgnpgjhlhaaW.PrintLast
theorem decT_len (t : ByteArray) : (decT t).1.length ≤ 200 := by
  unfold decT
  split
  · simp
  split
  · simp
  split
  · simp
  · split
    · simp
    split
    · simp
    split
    · next c L _ h8 h20 he =>
      have := (decs_bytes _ L (Classical.not_not.1 h8)).2.1
      dsimp only
      omega
    · simp
theorem reads_step (ys : List ByteArray) (i : Nat) (t : ByteArray) (hi : i < ys.length) (hy : ys.length ≤ 2) (hr : rdOf ByteArray.empty ys (i : Int) = t) (ht : t.size ≤ 3000) (k : Nat) (hk : 300 < k) :
    fuglemanlaw13_CodeReads.l0 (k + 2) ys (ys.length : Int) (i : Int) = fuglemanlaw13_CodeReads.l0 k ys (ys.length : Int) ((i + 1 : Nat) : Int) := by
  obtain ⟨b, hb, hbb⟩ := same_eq (decT t).1 (decT t).1 (by have := decT_len t; omega) (k + 1) (by have := decT_len t; omega)
  have hb1 : b = true := hbb.2 rfl
  subst hb1
  conv => lhs; simp only [fuglemanlaw13_CodeReads.l0]
  rw [if_pos (by omega), if_pos (by omega), if_pos (by omega), hr, decode_all t ht (k + 1) (by omega), Option.bind_some, rdecode_eq t (by omega) (k + 1) (by omega), Option.bind_some, if_pos rfl, hb, Option.bind_some]
  simp only [fuglemanlaw13_CodeReads.j1]
  rw [if_neg (by simp), w64 (by omega), show ((i : Int) + 1) = ((i + 1 : Nat) : Int) by omega]
  by_cases he : (decT t).2 = 0
  · rw [if_pos he, decT_back t ht he, Option.bind_some]
    dsimp only
    rw [if_pos rfl, if_pos rfl]
  · rw [if_neg he]
theorem reads_eq (s : ByteArray) : ∃ k, fuglemanlaw13_CodeReads.f k s = some true := by
  refine ⟨1005, ?_⟩
  unfold fuglemanlaw13_CodeReads.f
  rw [awake_eq 1005 (by decide), Option.bind_some]
  simp only [if_true]
  by_cases hs : 2000 < s.size
  · rw [if_pos (by omega)]
  rw [if_neg (by omega)]
  unfold fuglemanref01_Sealed.f
  rw [if_pos (by unfold maxLen; omega), Option.bind_some, Option.bind_some, Crc.rsealed_eq]
  have hz := Crc.sealed_size s
  have h0 := reads_step [s, Crc.sealed s] 0 s (by simp) (by simp) rfl (by omega) 1003 (by decide)
  have h1 := reads_step [s, Crc.sealed s] 1 (Crc.sealed s) (by simp) (by simp) rfl (by omega) 1001 (by decide)
  refine h0.trans (h1.trans ?_)
  simp only [fuglemanlaw13_CodeReads.l0]
  rw [if_neg (by simp)]
end Go.Proofs.Ytclbmgnpgjhlhaa.PCode
namespace Go.Proofs.Ytclbmgnpgjhlhaa
open Go.RowKit
theorem codeReads_walk (s : ByteArray) (_ : s.size ≤ 140737488351232) (w : World) :
    Calls Try.prog 9 #[.string s] w fun e w' => e = .returned (.bool true) ∧ Below w.heap.size w w' := by
  obtain ⟨k, hk⟩ := PCode.reads_eq s
  exact PCode.fuglemanlaw13_CodeReads.calls k s true w hk
end Go.Proofs.Ytclbmgnpgjhlhaa
