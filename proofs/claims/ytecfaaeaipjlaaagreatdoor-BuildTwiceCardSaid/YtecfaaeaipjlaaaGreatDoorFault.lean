/- Errors: errors.Is at two codes; what fault.New and fault.Wrap make. -/
import Derived.Test.YtecfaaeaipjlaaaGreatDoorData
import Derived.LaidEql
import Derived.Stop.Asserts
namespace Go.Proofs.YtecfaaeaipjlaaaGreatDoor
open Go.RowKit Go.Stop Go.Extern Go.Extern.Stop

theorem Tryz.nTypeOf (v : Value) (w : World) : (ReflectliteType.typeOf #[.iface 40 v]).run Tryz.prog w = .ok (.iface 164 (.agg #[.pointer (some ⟨9, 40, none⟩)])) w := by kernel_rfl
theorem Tryz.nComparable (w : World) : ((ReflectliteType.method fun t => do Rtype.noPackHeld "Comparable" t; (fun a => Value.bool a.comparable) <$> typeInfo t) #[.agg #[.pointer (some ⟨9, 40, none⟩)]]).run Tryz.prog w = .ok (.bool true) w := by kernel_rfl
theorem Tryz.nMethodComparable (v : Value) (w : World) : (Go.method 419 164 v "Comparable").run Tryz.prog w = .ok (231, v) w := by kernel_rfl
theorem Tryz.nNoIs (v : Value) (xT : TypeId) (w : World) : (Instr.typeAssert (.iface 40 v) xT 217 true).run Tryz.prog w = .ok (.tuple #[.nilIface, .bool false]) w := run_typeAssert_lacksB Tryz.underlying217 (by kernel_rfl) (by kernel_rfl) v xT w
theorem Tryz.nNoUnwrap (v : Value) (xT : TypeId) (w : World) : (Instr.typeAssert (.iface 40 v) xT 172 true).run Tryz.prog w = .ok (.tuple #[.nilIface, .bool false]) w := run_typeAssert_lacksB Tryz.underlying172 (by kernel_rfl) (by kernel_rfl) v xT w
theorem Tryz.nNoUnwraps (v : Value) (xT : TypeId) (w : World) : (Instr.typeAssert (.iface 40 v) xT 174 true).run Tryz.prog w = .ok (.tuple #[.nilIface, .bool false]) w := run_typeAssert_lacksB Tryz.underlying174 (by kernel_rfl) (by kernel_rfl) v xT w
theorem Tryz.nComp : (Tryz.prog.info? 40).map (·.comparable) = some true := by kernel_rfl

theorem run_equalIn_iface_int {P : Program} (w : World) (d : Nat) {ti tn : TypeId} {ms : Array (String × TypeId)} {i : TypeInfo} {k : IntKind} (a b : Int)
    (hi : P.underlying ti = some (.interface ms)) (hn : P.underlying tn = some (.int k)) (hinfo : P.info? tn = some i) (hcomp : i.comparable = true) :
    (Op.equalIn (d + 2) ti (.iface tn (.int k a)) (.iface tn (.int k b))).run P w = .ok (a == b) w := by
  simp [Op.equalIn, run_underlying hi, run_underlying hn, typeInfo, hinfo, hcomp]
/-- '==' between two errors that are codes. -/
theorem run_eql_iface_int {P : Program} (w : World) {ti tn : TypeId} {ms : Array (String × TypeId)} {i : TypeInfo} {k : IntKind} (a b : Int)
    (hi : P.underlying ti = some (.interface ms)) (hn : P.underlying tn = some (.int k)) (hinfo : P.info? tn = some i) (hcomp : i.comparable = true) :
    (binOp .eql ti (.iface tn (.int k a)) (.iface tn (.int k b))).run P w = .ok (.bool (a == b)) w := by
  simp only [binOp]
  simp [Op.equal, Op.maxDepth, run_equalIn_iface_int w 9998 a b hi hn hinfo hcomp]

set_option maxHeartbeats 1000000 in
theorem is_no (c : Int) (hc : c ≠ 0) (w : World) :
    Calls Tryz.prog 57 #[.iface 40 (.int .i64 c), .iface 40 (.int .i64 0)] w fun e w' => e = .returned (.bool false) ∧ w' = w := by
  obtain ⟨i, hi, hcmp⟩ := Option.map_eq_some_iff.1 Tryz.nComp
  have h8 := @run_callFunc_extern Tryz.prog 79 _ ReflectliteType.typeOf Tryz.func79 (by kernel_rfl) (by kernel_rfl) (by kernel_rfl) (by kernel_rfl)
  have h32 := @run_callFunc_extern Tryz.prog 231 _ (ReflectliteType.method fun t => do Rtype.noPackHeld "Comparable" t; pure (.bool (← typeInfo t).comparable)) Tryz.func231 (by kernel_rfl) (by kernel_rfl) (by kernel_rfl) (by kernel_rfl)
  have tT := Tryz.nTypeOf
  have cT := Tryz.nComparable
  have mR := Tryz.nMethodComparable
  have nE := Tryz.nNoIs
  have uE := Tryz.nNoUnwrap
  have vE := Tryz.nNoUnwraps
  have heq : (binOp .eql 35 (.iface 40 (.int .i64 c)) (.iface 40 (.int .i64 0))).run Tryz.prog w = .ok (.bool false) w := by
    rw [run_eql_iface_int w c 0 Tryz.underlying35 Tryz.underlying40 hi hcmp]
    rw [show (c == 0) = false from by simpa using hc]
  clear hi hcmp
  go_enter Tryz.func57, Tryz.ntmps57
  go_wp2
  refine wp_loop_rounds 1 ?_
  rw [rounds_succ]
  go_wp2
  go_ret
  exact ⟨rfl, rfl⟩

set_option maxHeartbeats 1000000 in
theorem new_calls (c : Int) (hc : c ≠ 0) (p : ByteArray) (w : World) :
    Calls Tryz.prog 32 #[.int .i64 c, .string p] w fun e w' => e = .returned (.iface 129 (.pointer (some ⟨w.heap.size, 0, none⟩))) ∧ w' = w.alloc (.cells #[.string p, .iface 40 (.int .i64 c)] 131) := by
  have HC := Ap.of hc
  clear hc
  go_enter Tryz.func32, Tryz.ntmps32
  go_wp2_with fail
  refine (is_no c HC.out w).mono ?_
  rintro e w1 ⟨rfl, rfl⟩
  go_wp2_with fail
  go_ret
  exact ⟨rfl, rfl⟩

set_option maxHeartbeats 1000000 in
theorem wrap_nil (p : ByteArray) (w : World) : Calls Tryz.prog 37 #[.nilIface, .string p] w fun e w' => e = .returned .nilIface ∧ w' = w := by
  go_enter Tryz.func37, Tryz.ntmps37
  go_wp2
  go_ret
  exact ⟨rfl, rfl⟩
set_option maxHeartbeats 1000000 in
theorem wrap_some (a : Addr) (p : ByteArray) (w : World) : Calls Tryz.prog 37 #[.iface 129 (.pointer (some a)), .string p] w fun e w' => e = .returned (.iface 129 (.pointer (some ⟨w.heap.size, 0, none⟩))) ∧ w' = w.alloc (.cells #[.string p, .iface 129 (.pointer (some a))] 131) := by
  go_enter Tryz.func37, Tryz.ntmps37
  go_wp2
  go_ret
  exact ⟨rfl, rfl⟩
end Go.Proofs.YtecfaaeaipjlaaaGreatDoor
