/- A name that ends in '!' is odd. -/
import Derived.Test.YtecfaaeaipjlaaaGreatDoorChk
import Derived.Lib.DecodeN
namespace Go.Proofs.YtecfaaeaipjlaaaGreatDoor

theorem dec_low (s : ByteArray) (i : Nat) (h : (Utf8.decode s i).1 < 128) : Utf8.decode s i = ((s.get! i).toNat, 1) := by
  rw [Lib.decode_at] at h ⊢
  unfold Lib.decodeN at h ⊢
  repeat' split at h
  all_goals first | (rename_i h0; rw [if_pos h0]; done) | (exfalso; simp at h; omega) | (exfalso; simp at h)
theorem sign_low {r : Nat} (h : signD r = true) : r < 128 ∧ r ≠ 33 := by
  unfold signD at h
  simp at h
  omega
theorem bang_from (s : ByteArray) : ∀ (f pos : Nat), pos ≤ s.size → s.size - pos < f → 0 ≤ Lib.idxFuncFrom (fun r => !signD r) true (s ++ ⟨#[33]⟩) f pos
  | 0, _, _, h => absurd h (Nat.not_lt_zero _)
  | f + 1, pos, hp, hf => by
    have hsz : (s ++ ⟨#[33]⟩ : ByteArray).size = s.size + 1 := by rw [ByteArray.size_append]; rfl
    unfold Lib.idxFuncFrom
    rw [if_pos (by omega)]
    cases hs : signD (Utf8.decode (s ++ ⟨#[33]⟩) pos).1 with
    | false => simp
    | true =>
      obtain ⟨h1, h2⟩ := sign_low hs
      have hd := dec_low _ _ h1
      have hne : pos ≠ s.size := by
        intro e
        rw [hd] at h2
        apply h2
        show ((s ++ ⟨#[33]⟩ : ByteArray).get! pos).toNat = 33
        rw [e]
        have : (s ++ ⟨#[33]⟩ : ByteArray).get! s.size = 33 := by
          simp [ByteArray.get!, ByteArray.data_append]
          exact Array.getElem_push_eq
        rw [this]
        rfl
      rw [hd]
      simpa using bang_from s f (pos + 1) (by omega) (by omega)
theorem odd_bang (s : ByteArray) : oddN (s ++ ⟨#[33]⟩) = true := by
  unfold oddN Lib.idxFunc
  exact decide_eq_true (bang_from s _ 0 (Nat.zero_le _) (by rw [ByteArray.size_append]; show s.size - 0 < s.size + 1; omega))
end Go.Proofs.YtecfaaeaipjlaaaGreatDoor
