/- Ranges, and plans, held against one another. -/
import Derived.Test.YtlomieopppndeaaGreatDoorPlanLaw
import Derived.Laws.StructEq
namespace Go.Proofs.YtlomieopppndeaaGreatDoor
open Go.RowKit

theorem tl_beq (a b : ByteArray) : (a.toList == b.toList) = decide (a = b) := by
  by_cases h : a = b
  · subst h; simp
  · have hn : ¬ a.toList = b.toList := fun e => h (by rw [Lib.toList_data, Lib.toList_data] at e; exact ba_ext e)
    rw [decide_eq_false h]
    simpa using hn
theorem eqRangeD (d : Nat) (a b a' b' : ByteArray) (c c' : Bool) (w : World) : (Op.equalIn (d + 2) 44 (.agg #[.string a, .string b, .bool c]) (.agg #[.string a', .string b', .bool c'])).run Tryz.prog w = .ok (decide (a = a') && decide (b = b') && (c == c')) w := by
  have hS : Tryz.prog.underlying 44 = some (.struct (Tryz.prog.fieldsOf 44)) := by kernel_rfl
  have u1 := Tryz.underlying9
  have u2 := Tryz.underlying4
  have a1 := Tryz.isAgg9
  have a2 := Tryz.isAgg4
  have z1 := Tryz.sizeOf9
  have z2 := Tryz.sizeOf4
  rw [run_equalIn_agg w (d + 1) 44 _ _ hS (by kernel_rfl)]
  rw [← tl_beq, ← tl_beq]
  simp only [Program.fieldsOf, Tryz.underlying44]
  go_simp
  by_cases h1 : a.toList = a'.toList <;> by_cases h2 : b.toList = b'.toList <;> by_cases h3 : c = c' <;> simp [h1, h2, h3]
theorem eqRange (a b a' b' : ByteArray) (c c' : Bool) (w : World) : (Op.equalIn 10000 44 (.agg #[.string a, .string b, .bool c]) (.agg #[.string a', .string b', .bool c'])).run Tryz.prog w = .ok (decide (a = a') && decide (b = b') && (c == c')) w := eqRangeD 9998 a b a' b' c c' w
theorem gdRange (x y : Operand) (xs ys : Array Value) (w : World) : (eqGuard .eql 44 x y (.agg xs) (.agg ys)).run Tryz.prog w = .ok () w := run_eqGuard_agg w .eql 44 x y xs ys (by kernel_rfl)
theorem gdPlan (x y : Operand) (xs ys : Array Value) (w : World) : (eqGuard .eql 83 x y (.agg xs) (.agg ys)).run Tryz.prog w = .ok () w := run_eqGuard_agg w .eql 83 x y xs ys (by kernel_rfl)
theorem eqPlan (n a b n' a' b' : ByteArray) (c c' : Bool) (w : World) : (Op.equalIn 10000 83 (.agg #[.string n, .string a, .string b, .bool c]) (.agg #[.string n', .string a', .string b', .bool c'])).run Tryz.prog w = .ok (decide (n = n') && (decide (a = a') && decide (b = b') && (c == c'))) w := by
  have hS : Tryz.prog.underlying 83 = some (.struct (Tryz.prog.fieldsOf 83)) := by kernel_rfl
  have u1 := Tryz.underlying9
  have a1 := Tryz.isAgg9
  have z1 := Tryz.sizeOf9
  have a2 := Tryz.isAgg44
  have z2 := Tryz.sizeOf44
  have er := fun w => eqRangeD 9997 a b a' b' c c' w
  rw [show (10000 : Nat) = 9999 + 1 from rfl, run_equalIn_agg w 9999 83 _ _ hS (by kernel_rfl)]
  rw [← tl_beq n n']
  simp only [Program.fieldsOf, Tryz.underlying83]
  generalize hq : (decide (a = a') && decide (b = b') && (c == c')) = q at *
  go_simp
  by_cases h1 : n.toList = n'.toList <;> cases q <;> simp [h1]
end Go.Proofs.YtlomieopppndeaaGreatDoor
