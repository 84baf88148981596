/- Texts in keys: strings.ReplaceAll as the key's law has it: plain. -/
import Derived.Test.YtlomieopppndeaaDoorKeyLaw
import Derived.Lib.Replace
namespace Go.Proofs.YtlomieopppndeaaDoor
open Go.RowKit

theorem repK_nz {b : UInt8} (h : b ≠ 0) (new l : List UInt8) : ∀ k, Lib.replaceK [0] new k (b :: l) = b :: Lib.replaceK [0] new k l
  | 0 => rfl
  | k + 1 => by
    have hp : ([0] : List UInt8).isPrefixOf (b :: l) = false := by simp [List.isPrefixOf, Ne.symm h]
    have hix : Lib.index (b :: l) [0] = if Lib.index l [0] == -1 then -1 else Lib.index l [0] + 1 := by rw [Lib.index, hp]; simp
    by_cases hm : Lib.index l [0] = -1
    · have hm2 : Lib.index (b :: l) [0] = -1 := by rw [hix, if_pos (beq_iff_eq.2 hm)]
      rw [Lib.replaceK, if_pos (beq_iff_eq.2 hm2), Lib.replaceK, if_pos (beq_iff_eq.2 hm)]
    · have hge := Lib.index_ge l [0]
      obtain ⟨j, hj⟩ : ∃ j : Nat, Lib.index l [0] = j := ⟨(Lib.index l [0]).toNat, by omega⟩
      have hix' : Lib.index (b :: l) [0] = ((j + 1 : Nat) : Int) := by rw [hix, if_neg (fun e => hm (beq_iff_eq.1 e)), hj]; omega
      rw [Lib.replaceK_hit _ _ _ _ _ hix', Lib.replaceK_hit _ _ _ _ _ hj]
      simp
theorem rep_esc : ∀ s : List UInt8, Lib.replaceK [0] [0, 255] (s.count 0) s = s.flatMap escB
  | [] => rfl
  | b :: l => by
    by_cases h : b = 0
    · subst h
      have hix : Lib.index ((0 : UInt8) :: l) [0] = ((0 : Nat) : Int) := by rw [Lib.index]; simp [List.isPrefixOf]
      rw [List.count_cons_self, Lib.replaceK_hit _ _ _ _ _ hix, List.flatMap_cons]
      show [] ++ [0, 255] ++ Lib.replaceK [0] [0, 255] (l.count 0) l = _
      rw [rep_esc l]
      rfl
    · rw [List.count_cons_of_ne (by simpa using h), repK_nz h, rep_esc l, List.flatMap_cons]
      have : escB b = [b] := by unfold escB; rw [if_neg h]
      rw [this]
      rfl
theorem replaceAll_esc (s : List UInt8) : Lib.replaceAll s [0] [0, 255] = s.flatMap escB := by
  unfold Lib.replaceAll Lib.replace Lib.replaceNum
  rw [if_neg (by decide), if_pos (.inl (by decide)), Lib.count_one, rep_esc]
end Go.Proofs.YtlomieopppndeaaDoor
