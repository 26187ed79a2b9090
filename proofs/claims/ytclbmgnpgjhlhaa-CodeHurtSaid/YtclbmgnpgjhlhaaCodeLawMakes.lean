/- The law CodeMakes: a program's bytes, its stamp, or the error, are the document's; of bytes it is decoded. -/
import Derived.Test.YtclbmgnpgjhlhaaCodePure2
import Derived.Test.YtclbmgnpgjhlhaaInsArg
namespace Go.Proofs.Ytclbmgnpgjhlhaa.PCode
open Go.RowKit Go.Proofs.YtclbmgnpgjhlhaaW.PrintWords Go.Proofs.YtclbmgnpgjhlhaaW.PrintLast
theorem one_in : ∀ x ∈ [(⟨1, 2, 0, 0, -1⟩ : II)], inI x := by
  intro x hx
  rw [List.mem_singleton] at hx
  subst hx
  simp only [inI]
  omega
theorem awake_eq (k : Nat) (hk : 10 < k) : fuglemanlaw13_awake.f k = some true := by
  have hok : [(⟨1, 2, 0, 0, -1⟩ : II)].all okB = true := by decide
  have hpl : (plainB [(⟨1, 2, 0, 0, -1⟩ : II)]).length = 9 := by unfold plainB; rw [List.length_cons, insBs_length]; rfl
  have hd := decode_eq [(⟨1, 2, 0, 0, -1⟩ : II)] hok one_in (by decide) k (by simp; omega)
  have hz := Crc.sealed_size ⟨(plainB [(⟨1, 2, 0, 0, -1⟩ : II)]).toArray⟩
  rw [bsize (plainB _), hpl] at hz
  obtain ⟨b, hb, hbb⟩ := same_eq [(⟨1, 2, 0, 0, -1⟩ : II)] [(⟨1, 2, 0, 0, -1⟩ : II)] (by decide) k (by simp; omega)
  unfold fuglemanlaw13_awake.f
  rw [Option.bind_some]
  unfold code_Encode.f
  rw [code_right_eq _ one_in, Option.bind_some, show errE [(⟨1, 2, 0, 0, -1⟩ : II)] = 0 by decide]
  simp only [if_true]
  unfold code_plain.f crc_Sealed.f
  rw [if_pos (by decide), Option.bind_some, if_pos (by rw [bsize, hpl]; decide), Option.bind_some, Option.bind_some]
  dsimp only
  rw [hd, Option.bind_some]
  dsimp only
  rw [if_pos rfl, if_pos rfl, if_pos (by rw [hz]; rfl), hb, Option.bind_some, hbb.2 rfl]
theorem makes_eq (l : List II) (h : ∀ x ∈ l, inI x) : ∃ k, fuglemanlaw13_CodeMakes.f k l = some true := by
  refine ⟨1000, ?_⟩
  unfold fuglemanlaw13_CodeMakes.f
  rw [awake_eq 1000 (by decide), Option.bind_some]
  simp only [if_true]
  by_cases hl : 220 < l.length
  · rw [if_pos (by omega)]
  rw [if_neg (by omega)]
  unfold code_Encode.f code_Stamp.f
  rw [code_right_eq l h, Option.bind_some, Option.bind_some, error_eq l h (by omega) 1000 (by omega)]
  by_cases he : errE l = 0
  · have hl2 : l.length ≤ 200 := by
      unfold errE at he
      split at he
      · omega
      · omega
    have hok : l.all okB = true := by
      unfold errE at he
      rw [if_neg (by omega)] at he
      split at he
      · assumption
      · omega
    have hpl : (plainB l).length = 1 + 8 * l.length := by unfold plainB; rw [List.length_cons, insBs_length]; omega
    obtain ⟨b, hb, hbb⟩ := same_eq l l (by omega) 1000 (by omega)
    rw [if_pos he, if_pos he]
    unfold code_plain.f crc_Sealed.f crc_Sum.f fuglemanref01_Sealed.f fuglemanref01_Sum.f
    rw [if_pos hl2, Option.bind_some, if_pos (by rw [bsize, hpl]; unfold maxLen; omega), Option.bind_some, Option.bind_some, Option.bind_some, Option.bind_some]
    rw [if_pos he, plain_eq l h hl2 1000 (by omega), Option.bind_some]
    dsimp only
    rw [decode_eq l hok h hl2 1000 (by omega), Option.bind_some]
    dsimp only
    rw [if_pos rfl, if_pos (by rw [bsize, hpl]; unfold maxLen; omega), Option.bind_some, if_pos (by rw [Crc.rsealed_eq]), if_pos (by rw [bsize, hpl]; unfold maxLen; omega), Option.bind_some, if_pos (by rw [bsize, hpl]; unfold maxLen; omega), Option.bind_some]
    rw [if_pos rfl, Option.bind_some, if_pos (by rw [Crc.more_eq 65535 (by decide)]), hb, Option.bind_some, hbb.2 rfl]
  · rw [if_neg he, if_neg he, Option.bind_some, Option.bind_some, if_neg he]
    dsimp only
    rw [if_pos rfl, if_pos (by rw [ByteArray.toList_eq])]
    rfl
end Go.Proofs.Ytclbmgnpgjhlhaa.PCode
namespace Go.Proofs.Ytclbmgnpgjhlhaa
open Go.RowKit
set_option maxRecDepth 100000 in
theorem codeMakes_walk {H : Type} {enc : TypeId × Value → H} (v : Value) (d : DataW H) (p : List MemPlace) {w : World}
    (h : DataW.Trod enc Try.prog w 0 (fun _ => true) true 56 v d p) (o : Value.okWide Try.prog w .any 0 56 v) (_ : ∀ x ∈ d.weights Try.prog 56, x ≤ 140737488351232) (_ : World) :
    Calls Try.prog 10 #[v] w fun e w' => e = .returned (.bool true) ∧ Below w.heap.size w w' := by
  obtain ⟨A0, c0, l, rfl, hC, hc, hin⟩ := ins_arg h o
  obtain ⟨k, hk⟩ := PCode.makes_eq l hin
  exact PCode.fuglemanlaw13_CodeMakes.calls k A0 c0 l true w hC hc hk
end Go.Proofs.Ytclbmgnpgjhlhaa
