/- Errors: errors.Is at two codes; what fault.New and fault.Wrap make. -/
import Derived.Test.YtlomieopppndeaaDoorData
import Derived.LaidEql
import Derived.Stop.Asserts
namespace Go.Proofs.YtlomieopppndeaaDoor
open Go.RowKit Go.Stop Go.Extern Go.Extern.Stop

theorem Tryd.nTypeOf (v : Value) (w : World) : (ReflectliteType.typeOf #[.iface 56 v]).run Tryd.prog w = .ok (.iface 131 (.agg #[.pointer (some ⟨14, 56, none⟩)])) w := by kernel_rfl
theorem Tryd.nComparable (w : World) : ((ReflectliteType.method fun t => do Rtype.noPackHeld "Comparable" t; (fun a => Value.bool a.comparable) <$> typeInfo t) #[.agg #[.pointer (some ⟨14, 56, none⟩)]]).run Tryd.prog w = .ok (.bool true) w := by kernel_rfl
theorem Tryd.nMethodComparable (v : Value) (w : World) : (Go.method 325 131 v "Comparable").run Tryd.prog w = .ok (149, v) w := by kernel_rfl
theorem Tryd.nNoIs (v : Value) (xT : TypeId) (w : World) : (Instr.typeAssert (.iface 56 v) xT 153 true).run Tryd.prog w = .ok (.tuple #[.nilIface, .bool false]) w := run_typeAssert_lacksB Tryd.underlying153 (by kernel_rfl) (by kernel_rfl) v xT w
theorem Tryd.nNoUnwrap (v : Value) (xT : TypeId) (w : World) : (Instr.typeAssert (.iface 56 v) xT 138 true).run Tryd.prog w = .ok (.tuple #[.nilIface, .bool false]) w := run_typeAssert_lacksB Tryd.underlying138 (by kernel_rfl) (by kernel_rfl) v xT w
theorem Tryd.nNoUnwraps (v : Value) (xT : TypeId) (w : World) : (Instr.typeAssert (.iface 56 v) xT 140 true).run Tryd.prog w = .ok (.tuple #[.nilIface, .bool false]) w := run_typeAssert_lacksB Tryd.underlying140 (by kernel_rfl) (by kernel_rfl) v xT w
theorem Tryd.nComp : (Tryd.prog.info? 56).map (·.comparable) = some true := by kernel_rfl

theorem run_equalIn_iface_int {P : Program} (w : World) (d : Nat) {ti tn : TypeId} {ms : Array (String × TypeId)} {i : TypeInfo} {k : IntKind} (a b : Int)
    (hi : P.underlying ti = some (.interface ms)) (hn : P.underlying tn = some (.int k)) (hinfo : P.info? tn = some i) (hcomp : i.comparable = true) :
    (Op.equalIn (d + 2) ti (.iface tn (.int k a)) (.iface tn (.int k b))).run P w = .ok (a == b) w := by
  simp [Op.equalIn, run_underlying hi, run_underlying hn, typeInfo, hinfo, hcomp]
/-- '==' between two errors that are codes. -/
theorem run_eql_iface_int {P : Program} (w : World) {ti tn : TypeId} {ms : Array (String × TypeId)} {i : TypeInfo} {k : IntKind} (a b : Int)
    (hi : P.underlying ti = some (.interface ms)) (hn : P.underlying tn = some (.int k)) (hinfo : P.info? tn = some i) (hcomp : i.comparable = true) :
    (binOp .eql ti (.iface tn (.int k a)) (.iface tn (.int k b))).run P w = .ok (.bool (a == b)) w := by
  simp only [binOp]
  simp [Op.equal, Op.maxDepth, run_equalIn_iface_int w 9998 a b hi hn hinfo hcomp]

set_option maxHeartbeats 1000000 in
theorem is_no (c : Int) (hc : c ≠ 0) (w : World) :
    Calls Tryd.prog 43 #[.iface 56 (.int .i64 c), .iface 56 (.int .i64 0)] w fun e w' => e = .returned (.bool false) ∧ w' = w := by
  obtain ⟨i, hi, hcmp⟩ := Option.map_eq_some_iff.1 Tryd.nComp
  have h8 := @run_callFunc_extern Tryd.prog 66 _ ReflectliteType.typeOf Tryd.func66 (by kernel_rfl) (by kernel_rfl) (by kernel_rfl) (by kernel_rfl)
  have h32 := @run_callFunc_extern Tryd.prog 149 _ (ReflectliteType.method fun t => do Rtype.noPackHeld "Comparable" t; pure (.bool (← typeInfo t).comparable)) Tryd.func149 (by kernel_rfl) (by kernel_rfl) (by kernel_rfl) (by kernel_rfl)
  have tT := Tryd.nTypeOf
  have cT := Tryd.nComparable
  have mR := Tryd.nMethodComparable
  have nE := Tryd.nNoIs
  have uE := Tryd.nNoUnwrap
  have vE := Tryd.nNoUnwraps
  have heq : (binOp .eql 52 (.iface 56 (.int .i64 c)) (.iface 56 (.int .i64 0))).run Tryd.prog w = .ok (.bool false) w := by
    rw [run_eql_iface_int w c 0 Tryd.underlying52 Tryd.underlying56 hi hcmp]
    rw [show (c == 0) = false from by simpa using hc]
  clear hi hcmp
  go_enter Tryd.func43, Tryd.ntmps43
  go_wp2
  refine wp_loop_rounds 1 ?_
  rw [rounds_succ]
  go_wp2
  go_ret
  exact ⟨rfl, rfl⟩

set_option maxHeartbeats 1000000 in
theorem new_calls (c : Int) (hc : c ≠ 0) (p : ByteArray) (w : World) :
    Calls Tryd.prog 30 #[.int .i64 c, .string p] w fun e w' => e = .returned (.iface 88 (.pointer (some ⟨w.heap.size, 0, none⟩))) ∧ w' = w.alloc (.cells #[.string p, .iface 56 (.int .i64 c)] 90) := by
  have HC := Ap.of hc
  clear hc
  go_enter Tryd.func30, Tryd.ntmps30
  go_wp2_with fail
  refine (is_no c HC.out w).mono ?_
  rintro e w1 ⟨rfl, rfl⟩
  go_wp2_with fail
  go_ret
  exact ⟨rfl, rfl⟩

set_option maxHeartbeats 1000000 in
theorem wrap_nil (p : ByteArray) (w : World) : Calls Tryd.prog 52 #[.nilIface, .string p] w fun e w' => e = .returned .nilIface ∧ w' = w := by
  go_enter Tryd.func52, Tryd.ntmps52
  go_wp2
  go_ret
  exact ⟨rfl, rfl⟩
set_option maxHeartbeats 1000000 in
theorem wrap_some (a : Addr) (p : ByteArray) (w : World) : Calls Tryd.prog 52 #[.iface 88 (.pointer (some a)), .string p] w fun e w' => e = .returned (.iface 88 (.pointer (some ⟨w.heap.size, 0, none⟩))) ∧ w' = w.alloc (.cells #[.string p, .iface 88 (.pointer (some a))] 90) := by
  go_enter Tryd.func52, Tryd.ntmps52
  go_wp2
  go_ret
  exact ⟨rfl, rfl⟩
end Go.Proofs.YtlomieopppndeaaDoor
