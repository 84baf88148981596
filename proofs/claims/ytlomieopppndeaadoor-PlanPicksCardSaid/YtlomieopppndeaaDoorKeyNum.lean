/- key.number: a number's eight bytes. -/
import Derived.Test.YtlomieopppndeaaDoorKeyLaw
import Derived.Test.YtlomieopppndeaaDoorRowLaw
import Derived.Laws.BitsAllLaws
import Derived.Laws.IdiomStrings
import Derived.Lib.UnsafeStr
namespace Go.Proofs.YtlomieopppndeaaDoor
open Go.RowKit

theorem mk8 : ∀ w : World, (Instr.makeSlice 22 (.int .i64 8) (.int .i64 8)).run Tryd.prog w = .ok (.slice (some ⟨w.heap.size, 0, none⟩) 8 8) (w.alloc (.cells #[.int .u8 0, .int .u8 0, .int .u8 0, .int .u8 0, .int .u8 0, .int .u8 0, .int .u8 0, .int .u8 0] 5)) := fun _ => by kernel_rfl
theorem beL_cons : ∀ (k n : Nat), beL (k + 1) n = UInt8.ofNat (n / 256 ^ k % 256) :: beL k n
  | 0, n => by simp [beL]
  | k + 1, n => by
    rw [beL, beL_cons k (n / 256)]
    have e : n / 256 / 256 ^ k = n / 256 ^ (k + 1) := by rw [Nat.div_div_eq_div_mul, Nat.pow_succ, Nat.mul_comm]
    rw [e]
    rfl
def numCells (k m : Nat) : List Value := List.replicate (8 - k) (.int .u8 0) ++ Lib.byteCells (beL k m)
theorem be_len : ∀ k n : Nat, (beL k n).length = k
  | 0, _ => rfl
  | k + 1, n => by rw [beL, List.length_append, be_len k]; rfl
theorem numCells_len (k m : Nat) (h : k ≤ 8) : (numCells k m).length = 8 := by
  unfold numCells
  rw [List.length_append, List.length_replicate, Lib.byteCells_length, be_len]
  omega
theorem numCells_set (k m : Nat) (h : k < 8) : (numCells k m).set (7 - k) (.int .u8 ((m / 256 ^ k % 256 : Nat) : Int)) = numCells (k + 1) m := by
  unfold numCells
  have e : 8 - k = (7 - k) + 1 := by omega
  rw [beL_cons, e, List.replicate_succ', List.append_assoc, List.set_append_right _ _ (by rw [List.length_replicate]; omega), List.length_replicate, Nat.sub_self, show 8 - (k + 1) = 7 - k by omega]
  simp [Lib.byteCells]
theorem xor63 (b : Nat) (h : b < 2 ^ 63) : b ^^^ 2 ^ 63 = 2 ^ 63 + b := by
  have e := Nat.two_pow_add_eq_or_of_lt h 1
  rw [Nat.mul_one] at e
  rw [e]
  apply Nat.eq_of_testBit_eq
  intro i
  rw [Nat.testBit_xor, Nat.testBit_or, Nat.testBit_two_pow]
  by_cases hi : 63 = i
  · subst hi
    rw [Nat.testBit_lt_two_pow h]
    simp
  · simp [hi]
theorem num_turn (n : Int) (h : inI64 n) : Go.bits .xor .u64 (IntKind.u64.wrap n) 9223372036854775808 = (((n + 9223372036854775808).toNat : Nat) : Int) := by
  have hw : IntKind.u64.wrap n = n % 18446744073709551616 := by rfl
  unfold inI64 at h
  rw [hw]
  rcases Int.lt_or_le n 0 with h0 | h0
  · obtain ⟨b, hb⟩ : ∃ b : Nat, n % 18446744073709551616 = ((2 ^ 63 + b : Nat) : Int) := ⟨(n % 18446744073709551616 - 9223372036854775808).toNat, by omega⟩
    have hb2 : b < 2 ^ 63 := by omega
    rw [hb, show (9223372036854775808 : Int) = ((2 ^ 63 : Nat) : Int) from rfl, u64_xor_nat _ _ (by omega) (by decide), ← xor63 b hb2, Nat.xor_assoc, Nat.xor_self, Nat.xor_zero]
    omega
  · obtain ⟨b, hb⟩ : ∃ b : Nat, n % 18446744073709551616 = (b : Int) := ⟨n.toNat, by omega⟩
    have hb2 : b < 2 ^ 63 := by omega
    rw [hb, show (9223372036854775808 : Int) = ((2 ^ 63 : Nat) : Int) from rfl, u64_xor_nat _ _ (by omega) (by decide), xor63 b hb2]
    omega
set_option maxRecDepth 100000 in
set_option maxHeartbeats 4000000 in
theorem number_calls (n : Int) (w : World) (h : inI64 n) : Calls Tryd.prog 57 #[.int .i64 n] w fun e w' => e = .returned (.string ⟨(numL n).toArray⟩) ∧ Below w.heap.size w w' := by
  have hmk := mk8
  obtain ⟨m, hm⟩ : ∃ m : Nat, m = (n + 9223372036854775808).toNat := ⟨_, rfl⟩
  have HT := Ap.of (num_turn n h)
  have HN := Ap.of (show numL n = beL 8 m by rw [hm]; rfl)
  rw [← hm] at HT
  clear hm h
  generalize numL n = out at *
  go_enter Tryd.func57, Tryd.ntmps57
  go_wp2_with fail
  go_loopw [4, 5] (fun v4 v5 wr => ∃ k : Nat, k ≤ 8 ∧ v4 = .int .i64 (7 - (k : Int)) ∧ v5 = .int .u64 ((m / 256 ^ k : Nat) : Int) ∧ Ap (wr.heap[w.heap.size]? = some (.cells (numCells k m).toArray 5 (0, 0))) ∧ Ap (Below w.heap.size w wr)) (fun v4 _ _ => (intOf v4 + 1).toNat)
  case atStart =>
    refine ⟨0, by decide, rfl, ?_, Ap.of (blk_new rfl), Ap.of (bel_alloc _ _)⟩
    rw [HT.out, Nat.pow_zero, Nat.div_one]
  case round =>
    obtain ⟨k, hk, rfl, rfl, HB, BL⟩ := hrel
    have lb := blk_lt HB.out
    by_cases hk8 : k < 8
    · have hge : decide (0 ≤ 7 - (k : Int)) = true := by simp; omega
      have hge' : (0 : Int) ≤ 7 - (k : Int) := by omega
      have hcl : ∃ v, wr.cell? ⟨w.heap.size, 7 - k, none⟩ = some v := ⟨_, by rw [blk_cells HB.out]; exact Array.getElem?_eq_getElem (by simp [numCells_len k m hk]; omega)⟩
      obtain ⟨v, hcv⟩ := hcl
      have hfz := blk_free HB.out
      have HST := Ap.of (numCells_set k m hk8)
      have HDV := Ap.of (show m / 256 ^ k / 256 = m / 256 ^ (k + 1) by rw [Nat.div_div_eq_div_mul, Nat.pow_succ])
      generalize hp : m / 256 ^ k = p at *
      have HP := Ap.of hp
      clear hp
      go_wp2_with fail
      go_roundw
      case rel =>
        refine ⟨k + 1, by omega, by congr 1; omega, ?_, ?_, ?_⟩
        · rw [← HDV.out]
          rfl
        · refine Ap.of ((blk_set HB.out (7 - k) _).trans ?_)
          rw [← HST.out]
          simp
        · exact Ap.of (Below.setCell BL.out (Nat.le_refl _) _)
      case measure => simp [intOf]; omega
    · obtain rfl : k = 8 := by omega
      have hcv := run_convert_bytes_back (P := Tryd.prog) wr 22 9 5 ⟨w.heap.size, 0, none⟩ 8 (beL 8 m) Tryd.underlying22 Tryd.underlying5 Tryd.underlying9 (fun j hj => by
        rw [show (⟨w.heap.size, 0, none⟩ : Addr).add j = ⟨w.heap.size, j, none⟩ from by unfold Addr.add; split <;> simp_all, blk_cells HB.out]
        simp [numCells, Lib.byteCells, List.getElem?_eq_getElem hj])
      rw [be_len] at hcv
      go_wp2_with fail
      go_ret
      exact ⟨by rw [HN.out]; rfl, BL.out⟩
end Go.Proofs.YtlomieopppndeaaDoor
