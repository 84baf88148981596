/- PathLong's texts, one by one. -/
import Derived.Test.YtlomieopppndeaaDoorPathParse
namespace Go.Proofs.YtlomieopppndeaaDoor
open Go.RowKit

/-- So many x. -/
def xsB : Nat → ByteArray
  | 0 => ⟨#[]⟩
  | n + 1 => xsB n ++ ⟨#[120]⟩
/-- .. and so many parts behind. -/
def longB (p : ByteArray) : Nat → ByteArray
  | 0 => p
  | n + 1 => longB p n ++ ⟨#[46]⟩ ++ ⟨#[121]⟩
def longOk (k l : Nat) : Bool := decide ((longB (xsB l) k).size < 100) && if 8 < k + 1 || l == 0 || decide (32 < l) then !pathOk (longB (xsB l) k) else pathOk (longB (xsB l) k) && (partsOf (longB (xsB l) k)).length == k + 1 && decide ((partsOf (longB (xsB l) k))[0]? = some (xsB l)) && !pathOk (longB (xsB l) k ++ ⟨#[46]⟩)
set_option maxRecDepth 100000 in
theorem long_0 : ((List.range 40).all fun l => longOk 0 l) = true := by kernel_rfl
set_option maxRecDepth 100000 in
theorem long_1 : ((List.range 40).all fun l => longOk 1 l) = true := by kernel_rfl
set_option maxRecDepth 100000 in
theorem long_2 : ((List.range 40).all fun l => longOk 2 l) = true := by kernel_rfl
set_option maxRecDepth 100000 in
theorem long_3 : ((List.range 40).all fun l => longOk 3 l) = true := by kernel_rfl
set_option maxRecDepth 100000 in
theorem long_4 : ((List.range 40).all fun l => longOk 4 l) = true := by kernel_rfl
set_option maxRecDepth 100000 in
theorem long_5 : ((List.range 40).all fun l => longOk 5 l) = true := by kernel_rfl
set_option maxRecDepth 100000 in
theorem long_6 : ((List.range 40).all fun l => longOk 6 l) = true := by kernel_rfl
set_option maxRecDepth 100000 in
theorem long_7 : ((List.range 40).all fun l => longOk 7 l) = true := by kernel_rfl
set_option maxRecDepth 100000 in
theorem long_8 : ((List.range 40).all fun l => longOk 8 l) = true := by kernel_rfl
set_option maxRecDepth 100000 in
theorem long_9 : ((List.range 40).all fun l => longOk 9 l) = true := by kernel_rfl
set_option maxRecDepth 100000 in
theorem long_10 : ((List.range 40).all fun l => longOk 10 l) = true := by kernel_rfl
set_option maxRecDepth 100000 in
theorem long_11 : ((List.range 40).all fun l => longOk 11 l) = true := by kernel_rfl
theorem long_ok {k l : Nat} (hk : k < 12) (hl : l < 40) : longOk k l = true := by
  have hall : ((List.range 40).all fun l => longOk k l) = true := by
    rcases k with _ | _ | _ | _ | _ | _ | _ | _ | _ | _ | _ | _ | k
    · exact long_0
    · exact long_1
    · exact long_2
    · exact long_3
    · exact long_4
    · exact long_5
    · exact long_6
    · exact long_7
    · exact long_8
    · exact long_9
    · exact long_10
    · exact long_11
    · omega
  exact List.all_eq_true.1 hall l (by simpa using hl)
theorem long_cases {k l : Nat} (hk : k < 12) (hl : l < 40) : (longB (xsB l) k).size < 100 ∧ ((8 < k + 1 ∨ l = 0 ∨ 32 < l) ∧ pathOk (longB (xsB l) k) = false ∨
    (k + 1 ≤ 8 ∧ 1 ≤ l ∧ l ≤ 32) ∧ pathOk (longB (xsB l) k) = true ∧ (partsOf (longB (xsB l) k)).length = k + 1 ∧ (partsOf (longB (xsB l) k))[0]? = some (xsB l) ∧ pathOk (longB (xsB l) k ++ ⟨#[46]⟩) = false) := by
  have h := long_ok hk hl
  unfold longOk at h
  rw [Bool.and_eq_true] at h
  refine ⟨of_decide_eq_true h.1, ?_⟩
  by_cases hc : (decide (8 < k + 1) || l == 0 || decide (32 < l)) = true
  · have h2 := h.2
    rw [if_pos hc] at h2
    refine .inl ⟨?_, by simpa using h2⟩
    simpa [or_assoc] using hc
  · have h2 := h.2
    rw [if_neg hc] at h2
    refine .inr ⟨?_, ?_⟩
    · simp at hc; omega
    · simpa [Bool.and_eq_true, and_assoc] using h2
theorem xsB_size : ∀ n, (xsB n).size = n
  | 0 => rfl
  | n + 1 => by
    show (xsB n ++ ⟨#[120]⟩).size = n + 1
    rw [ByteArray.size_append, xsB_size n]; rfl
theorem longB_size (p : ByteArray) : ∀ n, (longB p n).size = p.size + 2 * n
  | 0 => rfl
  | n + 1 => by
    show (longB p n ++ ⟨#[46]⟩ ++ ⟨#[121]⟩).size = _
    rw [ByteArray.size_append, ByteArray.size_append, longB_size p n]
    show p.size + 2 * n + 1 + 1 = _
    omega
end Go.Proofs.YtlomieopppndeaaDoor
