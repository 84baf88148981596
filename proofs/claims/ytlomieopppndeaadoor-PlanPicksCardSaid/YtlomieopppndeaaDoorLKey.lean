/- roundelaylaw05.written, Put: a value's key by definition. -/
import Derived.Test.YtlomieopppndeaaDoorKeyPut2
namespace Go.Proofs.YtlomieopppndeaaDoor
open Go.RowKit

theorem ch_at (s : ByteArray) (k : Nat) (hk : k < s.size) (_hs : s.size ≤ 16) : ∃ b : UInt8, s.data.toList[k]? = some b ∧ (∀ W : World, (Instr.slice 9 (.string s) (some (.int .i64 (k : Int))) (some (.int .i64 ((k : Int) + 1))) none).run Tryd.prog W = .ok (.string ⟨#[b]⟩) W) ∧
    ∀ W : World, (Instr.index 9 (.string s) (.int .i64 (k : Int))).run Tryd.prog W = .ok (.int .u8 (b.toNat : Int)) W := by
  have hl : k < s.data.toList.length := by simpa using hk
  refine ⟨s.data.toList[k], List.getElem?_eq_getElem hl, fun W => ?_, fun W => ?_⟩
  · have he : s.extract k (k + 1) = ⟨#[s.data.toList[k]]⟩ := by
      apply ByteArray.ext
      rw [ByteArray.data_extract]
      apply Array.toList_inj.1
      simp [List.drop_eq_getElem_cons hl]
    have hk1 : (k : Int) + 1 ≤ (s.size : Int) := by omega
    simp [Instr.slice, Instr.sliceBounds, go_sem, hk1, he]
    omega
  · have hq : s[k]? = some (s.data.toList[k]) := by
      rw [getElem?_pos s k hk]
      rfl
    simp [Instr.index, go_sem, hq]
theorem esc_next {l : List UInt8} {k : Nat} {b : UInt8} (h : l[k]? = some b) : (l.take (k + 1)).flatMap escB = (l.take k).flatMap escB ++ escB b := flat_next escB h
theorem cat2 (a b : List UInt8) : (⟨a.toArray⟩ : ByteArray) ++ ⟨b.toArray⟩ = ⟨(a ++ b).toArray⟩ := by
  apply ByteArray.ext
  simp
theorem esc_size (l : List UInt8) (h : l.length ≤ 16) : (⟨(l.flatMap escB).toArray⟩ : ByteArray).size ≤ 40 := by
  show (l.flatMap escB).toArray.size ≤ 40
  have h1 := written_len l
  unfold writtenL at h1
  rw [List.length_append] at h1
  have h4 : ([0, 1] : List UInt8).length = 2 := rfl
  rw [List.size_toArray]
  omega
set_option maxRecDepth 100000 in
set_option maxHeartbeats 4000000 in
theorem lwritten_calls (s : ByteArray) (hs : s.size ≤ 16) (w : World) : Calls Tryd.prog 32 #[.string s] w fun e w' => e = .returned (.string ⟨(writtenL s.data.toList).toArray⟩) ∧ w' = w := by
  have HO := Ap.of (show writtenL s.data.toList = s.data.toList.flatMap escB ++ [0, 1] from rfl)
  have HS := Ap.of hs
  have HL := Ap.of (show s.data.toList.length = s.size by simp)
  generalize writtenL s.data.toList = out at *
  clear hs
  go_enter Tryd.func32, Tryd.ntmps32
  go_wp2_with fail
  go_loop [3, 4] (fun v3 v4 => ∃ (k : Nat) (acc : ByteArray), k ≤ s.size ∧ v4 = .int .i64 (k : Int) ∧ v3 = .string acc ∧ Ap (acc = ⟨((s.data.toList.take k).flatMap escB).toArray⟩)) (fun _ v4 => s.size - (intOf v4).toNat)
  case atStart => exact ⟨0, _, Nat.zero_le _, rfl, rfl, Ap.of rfl⟩
  case round =>
    obtain ⟨k, acc, hk, rfl, rfl, HA⟩ := hrel
    have hsz : acc.size ≤ 40 := by
      rw [HA.out]
      exact esc_size _ (by rw [List.length_take, HL.out]; have := HS.out; omega)
    have z1 : ¬ 9223372036854775807 < acc.size + 1 := by omega
    have z2 : ¬ 9223372036854775807 < acc.size + 2 := by omega
    have z3 : ¬ 9223372036854775807 < acc.size + 1 + 1 := by omega
    clear hsz
    by_cases hlt : k < s.size
    · obtain ⟨b, hb, hsl, hix⟩ := ch_at s k hlt HS.out
      have hlt' : (k : Int) < (s.size : Int) := by omega
      have hks : (k : Int) + 1 ≤ 17 := by have := HS.out; omega
      have hwr : wrap64 ((k : Int) + 1) = (k : Int) + 1 := by unfold wrap64; omega
      have HN := Ap.of (esc_next hb)
      have HLT := Ap.of hlt
      by_cases h0 : b = 0
      · have hb0 : ((b.toNat : Int) == 0) = true := by rw [h0]; rfl
        have hbn : b.toNat = 0 := by rw [h0]; rfl
        have HB := Ap.of h0
        clear hb h0
        go_wp2_with fail
        go_round
        case rel => exact ⟨k + 1, _, by have := HLT.out; omega, rfl, rfl, Ap.of (by
          rw [HN.out, HA.out, HB.out]
          show (⟨((s.data.toList.take k).flatMap escB).toArray⟩ : ByteArray) ++ ⟨([0] : List UInt8).toArray⟩ ++ ⟨([255] : List UInt8).toArray⟩ = _
          rw [cat2, cat2, List.append_assoc]
          rfl)⟩
        case measure => have := HLT.out; simp [intOf]; omega
      · have hb0 : ((b.toNat : Int) == 0) = false := by
          simp
          exact fun h => h0 (UInt8.toNat_inj.1 h)
        have HB := Ap.of h0
        clear hb h0
        go_wp2_with fail
        go_round
        case rel => exact ⟨k + 1, _, by have := HLT.out; omega, rfl, rfl, Ap.of (by
          rw [HN.out, HA.out]
          show (⟨((s.data.toList.take k).flatMap escB).toArray⟩ : ByteArray) ++ ⟨([b] : List UInt8).toArray⟩ = _
          rw [cat2]
          unfold escB
          rw [if_neg HB.out])⟩
        case measure => have := HLT.out; simp [intOf]; omega
    · obtain rfl : k = s.size := by omega
      have hlt' : ¬ (s.size : Int) < (s.size : Int) := by omega
      go_wp2_with fail
      go_ret
      exact ⟨by rw [HA.out, ← HL.out, List.take_length, HO.out]; exact congrArg (fun x => Ending.returned (Value.string x)) (cat2 _ _), rfl⟩
end Go.Proofs.YtlomieopppndeaaDoor
