/- The first parts of a path. -/
import Derived.Test.YtlomieopppndeaaGreatDoorPathFinds
namespace Go.Proofs.YtlomieopppndeaaGreatDoor
open Go.RowKit

theorem Row.take {α : Type} {K : Knd α} {w : World} {ok : Nat → Prop} {A : Option Addr} {n c k : Nat} {xs : List α} (h : Row K w ok A n c xs) (hk : k ≤ n) : Row K w ok A k c (xs.take k) := by
  rcases h with ⟨rfl, rfl, rfl, rfl⟩ | ⟨g, off, h1, h2, h3, h4, h5, h6, h7⟩
  · obtain rfl : k = 0 := by omega
    exact Row.nil _ _ _
  · refine .inr ⟨g, off, h1, by rw [List.length_take]; omega, by omega, h4, h5, h6, fun i x hx => ?_⟩
    rw [List.getElem?_take] at hx
    split at hx
    · exact h7 i x hx
    · cases hx
/-- p[:k]. -/
theorem strs_to {w : World} {ok : Nat → Prop} {A : Option Addr} {n c k : Nat} {l : List ByteArray} (h : Row KStr w ok A n c l) (hk : k ≤ n) (z : Int) (hz : z = (k : Int)) (W : World) : (Instr.slice 30 (.slice A n c) none (some (.int .i64 z)) none).run Tryz.prog W = .ok (.slice A k c) W := by
  subst hz
  have hc := h.cap
  have e1 : (k : Int) ≤ (c : Int) := by omega
  rcases h with ⟨rfl, rfl, rfl, rfl⟩ | ⟨g, off, rfl, _⟩
  · obtain rfl : k = 0 := by omega
    simp [Instr.slice, Instr.sliceBounds, go_sem]
  · simp [Instr.slice, Instr.sliceBounds, go_sem, e1]
end Go.Proofs.YtlomieopppndeaaGreatDoor
