/- The walks over a matrix of bits. -/
import Derived.Test.YtpkgpffodkfncaaCrcWalks2
import Derived.Deep.QuietTactic
import Derived.BigQuiet
import Derived.Laws.Rows
import Derived.Laws.Tables
import Derived.RegionTactic
import Derived.WalkSmall
namespace Go.Proofs.Ytpkgpffodkfncaa
open Go.RowKit
def matVals (m : List Nat) : Array Value := (m.map fun x : Nat => Value.int .u16 (x : Int)).toArray
def MatAt (w : World) (b : Nat) (m : List Nat) : Prop := w.heap[b]? = some (.cells (matVals m) 80 (0, 0))
theorem matAt_cell {w : World} {b : Nat} {m : List Nat} (h : MatAt w b m) (j : Nat) (hj : j < m.length) : w.cell? ⟨b, j, none⟩ = some (.int .u16 (m.getD j 0 : Nat)) := by
  simp [World.cell?, show w.heap[b]? = _ from h, matVals, hj, List.getD_eq_getElem?_getD]
set_option maxRecDepth 100000 in
theorem times_any (b : Nat) (m : List Nat) (hl : m.length = 16) (hm : ∀ x ∈ m, x < 65536) (s : Nat) (hs : s < 65536) (w : World) (h : MatAt w b m) :
    Calls Try.prog 60 #[.pointer (some ⟨b, 0, none⟩), .int .u16 (s : Int)] w fun e w' => e = .returned (.int .u16 (Crc.timesTo m s 16 : Nat)) ∧ ∃ n, w' = w.drewN n := by
  go_enter Try.func60, Try.ntmps60
  go_wp2
  go_loopw [5, 9] (fun a i wr => ∃ k : Nat, k ≤ 16 ∧ i = .int .i64 (k : Int) ∧ a = .int .u16 (Crc.timesTo m s k : Nat) ∧ ∃ n, wr = w.drewN n) (fun _ i _ => 16 - (intOf i).toNat)
  case atStart => exact ⟨0, by omega, rfl, rfl, 0, rfl⟩
  case round =>
    obtain ⟨k, hk, rfl, rfl, n, rfl⟩ := hrel
    have ht := Crc.timesTo_lt m s hm k
    by_cases hlt : k < 16
    · have hcell : w.cell? ⟨b, k, none⟩ = some (.int .u16 (m.getD k 0 : Nat)) := matAt_cell h k (by omega)
      have hdiv : (s : Int) / 2 ^ k = ((s / 2 ^ k : Nat) : Int) := by simp
      have hdl : s / 2 ^ k < 65536 := Nat.lt_of_le_of_lt (Nat.div_le_self _ _) hs
      have hand : bits .and .u16 ((s : Int) / 2 ^ k) 1 = ((s / 2 ^ k % 2 : Nat) : Int) := by
        have := u16_and_nat (s / 2 ^ k) 1 hdl (by decide)
        rw [show (1 : Nat) = 2 ^ 1 - 1 from rfl, Nat.and_two_pow_sub_one_eq_mod] at this
        rw [hdiv]
        exact this
      by_cases hbit : s / 2 ^ k % 2 = 1
      · have hb1 : (bits .and .u16 ((s : Int) / 2 ^ k) 1 == 1) = true := by rw [hand, beq_iff_eq]; omega
        have hstep : Crc.timesTo m s (k + 1) = Crc.timesTo m s k ^^^ m.getD k 0 := by rw [Crc.timesTo, if_pos hbit]
        have hx := u16_xor_nat (Crc.timesTo m s k) (m.getD k 0) ht (Crc.getD_lt hm k)
        rw [← hstep] at hx
        have HX := Lib.hid hx
        clear hand hdiv hstep hx
        go_wp2
        go_quiet (fail)
        go_wp2
        go_roundw
        case rel => exact ⟨k + 1, by omega, by go_num, by rw [← HX.out]; simp [hl, hlt, List.getD_eq_getElem?_getD], _, rfl⟩
        case measure => simp [intOf]; omega
      · have hb1 : (bits .and .u16 ((s : Int) / 2 ^ k) 1 == 1) = false := by rw [hand, beq_eq_false_iff_ne]; omega
        have hstep : Crc.timesTo m s (k + 1) = Crc.timesTo m s k := by rw [Crc.timesTo, if_neg hbit]
        have HX := Lib.hid hstep
        clear hand hdiv hstep
        go_wp2
        go_quiet (fail)
        go_wp2
        go_roundw
        case rel => exact ⟨k + 1, by omega, by go_num, by rw [HX.out], _, rfl⟩
        case measure => simp [intOf]; omega
    · go_wp2
      go_ret
      have h16 : k = 16 := by omega
      subst h16
      exact ⟨rfl, n, rfl⟩
theorem matVals_size (m : List Nat) : (matVals m).size = m.length := by simp [matVals]
theorem matVals_set (m : List Nat) (k v : Nat) : (matVals m).setIfInBounds k (.int .u16 (v : Int)) = matVals (m.set k v) := by
  apply Array.ext'
  simp [matVals, List.map_set]
theorem matVals_one (m : List Nat) : (matVals m).all (·.oneCell') = true := by
  simp only [matVals, Array.all_eq_true_iff_forall_mem]
  intro x hx
  simp at hx
  obtain ⟨a, _, rfl⟩ := hx
  rfl
theorem below_setRow {B : Nat} {a w : World} (h : Below B a w) (g : Nat) (hg : B ≤ g) (cs : Array Value) : Below B a (w.setRow g cs) :=
  h.trans ⟨rfl, rfl, rfl, by simp, fun k hk => setRow_other w g k cs (by omega)⟩
theorem mat_info : (Try.prog.info? 80).map (·.size) = some 16 := by kernel_rfl
set_option maxRecDepth 100000 in
theorem twice_any (b : Nat) (m : List Nat) (hl : m.length = 16) (hm : ∀ x ∈ m, x < 65536) (w : World) (hb : b < w.heap.size) (h : MatAt w b m) :
    Calls Try.prog 61 #[.pointer (some ⟨b, 0, none⟩)] w fun e w' => e = .returned (.agg (matVals (Crc.twice m))) ∧ Below w.heap.size w w' := by
  go_enter Try.func61, Try.ntmps61
  go_wp2
  go_loopw [7] (fun i wr => ∃ k : Nat, k ≤ 16 ∧ i = .int .i64 (k : Int) ∧ Below w.heap.size w wr ∧ MatAt wr (w.heap.size + 1) (Crc.twiceTo m k) ∧ MatAt wr w.heap.size (List.replicate 16 0)) (fun i _ => 16 - (intOf i).toNat)
  case atStart => exact ⟨0, by omega, rfl, ((Below.refl _ _).alloc (Nat.le_refl _) _).alloc (by simp) _, heap_alloc2_new _ _ _, heap_alloc2_old _ _ _⟩
  case round =>
    obtain ⟨k, hk, rfl, hbel, h1, h0⟩ := hrel
    by_cases hlt : k < 16
    · have hmb : MatAt wr b m := (hbel.block b hb).trans h
      have hcell : wr.cell? ⟨b, k, none⟩ = some (.int .u16 (m.getD k 0 : Nat)) := matAt_cell hmb k (by omega)
      rw [List.getD_eq_getElem?_getD, List.getElem?_eq_getElem (by omega), Option.getD_some] at hcell
      have ht := Crc.timesTo_lt m m[k] hm 16
      have hml : m[k] < 65536 := hm _ (List.getElem_mem _)
      have hcell1 : ∀ n, (wr.drewN n).cell? ⟨w.heap.size + 1, k, none⟩ = some (.int .u16 ((Crc.twiceTo m k).getD k 0 : Nat)) := fun n => matAt_cell (w := wr.drewN n) h1 k (by simp [Crc.twiceTo, hlt])
      have hfro1 : ∀ n, (wr.drewN n).frozen? ⟨w.heap.size + 1, k, none⟩ = false := fun n => frozen_of_row (wr.drewN n) _ _ _ _ h1
      go_wp2
      go_quiet (fail)
      go_wp2_with fail
      refine (times_any b m hl hm m[k] hml (wr.drewN nq) hmb).mono ?_
      rintro e w' ⟨rfl, n2, rfl⟩
      simp only [World.drewN_drewN]
      go_wp2
      go_roundw
      case rel =>
        refine ⟨k + 1, by omega, by go_num, (below_drewN hbel _).setCell (by simp) _, ?_, ?_⟩
        · have e := heap_setCell_same (wr.drewN (nq + n2)) (w.heap.size + 1) k _ _ (.int .u16 (Crc.timesTo m m[k] 16 : Nat)) (show (wr.drewN (nq + n2)).heap[w.heap.size + 1]? = _ from h1)
          rw [matVals_set] at e
          have e2 := Crc.twiceTo_succ m k hlt
          rw [List.getD_eq_getElem?_getD, List.getElem?_eq_getElem (by omega), Option.getD_some] at e2
          rw [← e2] at e
          exact e
        · exact (heap_setCell_other (wr.drewN (nq + n2)) _ _ _ (by simp)).trans h0
      case measure => simp [intOf]; omega
    · go_wp2_with (first | (refine wpList_load_row rfl 80 (.tmp 3) rfl (w.heap.size + 1) rfl 80 (matVals (Crc.twiceTo m k)) (0, 0) (.array 16 22) h1 (by kernel_rfl) rfl (mat_info.trans (by simp [matVals_size, Crc.twiceTo])) ?_) | (refine wpList_store_row rfl 80 (.tmp 2) (.tmp 19) rfl w.heap.size (matVals (Crc.twiceTo m k)) rfl rfl 80 (matVals (List.replicate 16 0)) h0 (mat_info.trans (by simp [matVals_size, Crc.twiceTo])) (by simp [matVals_size, Crc.twiceTo]) (matVals_one _) ?_))
      refine bodyPost_ret (v := .agg (matVals (Crc.twice m))) ?_ rfl ⟨rfl, below_setRow hbel _ (Nat.le_refl _) _⟩
      rw [← Crc.twiceTo_all m k (by omega)]
      exact results_cell_row rfl _ _ w.heap.size 80 _ (0, 0) (.array 16 22) rfl (setRow_heap _ _ _ _ _ _ h0) (by kernel_rfl) rfl (mat_info.trans (by simp [matVals_size, Crc.twiceTo]))
end Go.Proofs.Ytpkgpffodkfncaa
