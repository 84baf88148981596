/- Ranges, and plans, held against one another. -/
import Derived.Test.YtlomieopppndeaaDoorPlanLaw
import Derived.Laws.StructEq
namespace Go.Proofs.YtlomieopppndeaaDoor
open Go.RowKit

theorem tl_beq (a b : ByteArray) : (a.toList == b.toList) = decide (a = b) := by
  by_cases h : a = b
  · subst h; simp
  · have hn : ¬ a.toList = b.toList := fun e => h (by rw [Lib.toList_data, Lib.toList_data] at e; exact ba_ext e)
    rw [decide_eq_false h]
    simpa using hn
theorem eqRangeD (d : Nat) (a b a' b' : ByteArray) (c c' : Bool) (w : World) : (Op.equalIn (d + 2) 37 (.agg #[.string a, .string b, .bool c]) (.agg #[.string a', .string b', .bool c'])).run Tryd.prog w = .ok (decide (a = a') && decide (b = b') && (c == c')) w := by
  have hS : Tryd.prog.underlying 37 = some (.struct (Tryd.prog.fieldsOf 37)) := by kernel_rfl
  have u1 := Tryd.underlying9
  have u2 := Tryd.underlying4
  have a1 := Tryd.isAgg9
  have a2 := Tryd.isAgg4
  have z1 := Tryd.sizeOf9
  have z2 := Tryd.sizeOf4
  rw [run_equalIn_agg w (d + 1) 37 _ _ hS (by kernel_rfl)]
  rw [← tl_beq, ← tl_beq]
  simp only [Program.fieldsOf, Tryd.underlying37]
  go_simp
  by_cases h1 : a.toList = a'.toList <;> by_cases h2 : b.toList = b'.toList <;> by_cases h3 : c = c' <;> simp [h1, h2, h3]
theorem eqRange (a b a' b' : ByteArray) (c c' : Bool) (w : World) : (Op.equalIn 10000 37 (.agg #[.string a, .string b, .bool c]) (.agg #[.string a', .string b', .bool c'])).run Tryd.prog w = .ok (decide (a = a') && decide (b = b') && (c == c')) w := eqRangeD 9998 a b a' b' c c' w
theorem gdRange (x y : Operand) (xs ys : Array Value) (w : World) : (eqGuard .eql 37 x y (.agg xs) (.agg ys)).run Tryd.prog w = .ok () w := run_eqGuard_agg w .eql 37 x y xs ys (by kernel_rfl)
theorem gdPlan (x y : Operand) (xs ys : Array Value) (w : World) : (eqGuard .eql 44 x y (.agg xs) (.agg ys)).run Tryd.prog w = .ok () w := run_eqGuard_agg w .eql 44 x y xs ys (by kernel_rfl)
theorem eqPlan (n a b n' a' b' : ByteArray) (c c' : Bool) (w : World) : (Op.equalIn 10000 44 (.agg #[.string n, .string a, .string b, .bool c]) (.agg #[.string n', .string a', .string b', .bool c'])).run Tryd.prog w = .ok (decide (n = n') && (decide (a = a') && decide (b = b') && (c == c'))) w := by
  have hS : Tryd.prog.underlying 44 = some (.struct (Tryd.prog.fieldsOf 44)) := by kernel_rfl
  have u1 := Tryd.underlying9
  have a1 := Tryd.isAgg9
  have z1 := Tryd.sizeOf9
  have a2 := Tryd.isAgg37
  have z2 := Tryd.sizeOf37
  have er := fun w => eqRangeD 9997 a b a' b' c c' w
  rw [show (10000 : Nat) = 9999 + 1 from rfl, run_equalIn_agg w 9999 44 _ _ hS (by kernel_rfl)]
  rw [← tl_beq n n']
  simp only [Program.fieldsOf, Tryd.underlying44]
  generalize hq : (decide (a = a') && decide (b = b') && (c == c')) = q at *
  go_simp
  by_cases h1 : n.toList = n'.toList <;> cases q <;> simp [h1]
end Go.Proofs.YtlomieopppndeaaDoor
