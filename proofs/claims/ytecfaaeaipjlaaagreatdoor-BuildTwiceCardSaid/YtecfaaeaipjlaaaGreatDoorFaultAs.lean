/- Errors: errors.As at a code; fault.Code. -/
import Derived.Test.YtecfaaeaipjlaaaGreatDoorFault
import Derived.RowKitTokens
import Derived.Deep.LoopGhost
namespace Go.Proofs.YtecfaaeaipjlaaaGreatDoor
open Go.RowKit Go.Stop Go.Extern Go.Extern.Stop

/-- An error of a code: faults, one in another, and the code in the innermost. -/
def ErrAt (w : World) : Nat → Int → Value → Prop
  | 0, c, v => v = .iface 40 (.int .i64 c)
  | d + 1, c, v => ∃ (g : Nat) (p : ByteArray) (x : Value), v = .iface 129 (.pointer (some ⟨g, 0, none⟩)) ∧ w.heap[g]? = some (.cells #[.string p, x] 131 (0, 0)) ∧ ErrAt w d c x
theorem ErrAt.below {w w' : World} (hb : Below w.heap.size w w') : ∀ {d : Nat} {c : Int} {v : Value}, ErrAt w d c v → ErrAt w' d c v
  | 0, _, _ => id
  | _ + 1, _, _ => by
    rintro ⟨g, p, x, h1, h2, h3⟩
    exact ⟨g, p, x, h1, blk_bel h2 hb, ErrAt.below hb h3⟩
theorem ErrAt.only {S : Nat → Prop} {w w' : World} (hb : Only S w w') (hs : ∀ g cs, w.heap[g]? = some (.cells cs 131 (0, 0)) → ¬ S g) : ∀ {d : Nat} {c : Int} {v : Value}, ErrAt w d c v → ErrAt w' d c v
  | 0, _, _ => id
  | _ + 1, _, _ => by
    rintro ⟨g, p, x, h1, h2, h3⟩
    exact ⟨g, p, x, h1, blk_only h2 hb (hs g _ h2), ErrAt.only hb hs h3⟩

theorem Tryz.asValueOf (t : Addr) (w : World) : (ReflectliteValue.unpack (.iface 74 (.pointer (some t)))).run Tryz.prog w
    = .ok (.agg #[.pointer (some ⟨9, 74, none⟩), .pointer (some ⟨w.heap.size, 0, none⟩), .int .u64 150]) (w.alloc (.cells #[.pointer (some t)] 74)) := by kernel_rfl
theorem Tryz.asType (a : Addr) (w : World) : (ReflectliteValue.methodAny (ReflectliteValue.valueError "reflectlite.Value.Type" 0) (fun t _ _ _ => ReflectliteType.toType t) #[.agg #[.pointer (some ⟨9, 74, none⟩), .pointer (some a), .int .u64 150]]).run Tryz.prog w
    = .ok (.iface 164 (.agg #[.pointer (some ⟨9, 74, none⟩)])) w := by kernel_rfl
theorem Tryz.asMethodKind (h : Value) (w : World) : (Go.method 419 164 (.agg #[h]) "Kind").run Tryz.prog w = .ok (218, h) w := by kernel_rfl
theorem Tryz.asKindP (w : World) : ((ReflectliteType.abiMethod fun t => (fun a : Nat => Value.int IntKind.u8 (a : Int)) <$> Rtype.kind t) #[.pointer (some ⟨9, 74, none⟩)]).run Tryz.prog w = .ok (.int .u8 22) w := by kernel_rfl
theorem Tryz.asKindE (w : World) : ((ReflectliteType.abiMethod fun t => (fun a : Nat => Value.int IntKind.u8 (a : Int)) <$> Rtype.kind t) #[.pointer (some ⟨9, 40, none⟩)]).run Tryz.prog w = .ok (.int .u8 2) w := by kernel_rfl
theorem rlm (z : Sem Value) (f : TypeId → Addr → Nat → Nat → Sem Value) (v : Value) :
    ReflectliteValue.method z f #[v] = (do match ← ReflectliteValue.parts v with | none => z | some (t, a, fl) => f t a fl (fl % 32)) := rfl
theorem Tryz.asParts (a : Addr) (w : World) : (ReflectliteValue.parts (.agg #[.pointer (some ⟨9, 74, none⟩), .pointer (some a), .int .u64 150])).run Tryz.prog w = .ok (some (74, a, 150)) w := by kernel_rfl
theorem Tryz.asIsNil (a p : Addr) (W : World) (ha : W.cell? a = some (.pointer (some p))) :
    (ReflectliteValue.method (ReflectliteValue.valueError "reflectlite.Value.IsNil" 0) ReflectliteValue.isNil #[.agg #[.pointer (some ⟨9, 74, none⟩), .pointer (some a), .int .u64 150]]).run Tryz.prog W = .ok (.bool false) W := by
  rw [rlm]
  simp only [Sem.run_bind, Tryz.asParts, Result.andThen]
  simp [ReflectliteValue.isNil, loadVar, isAgg, underlying, Tryz.underlying74, ha, Result.andThen]
theorem Tryz.asMethodElem (h : Value) (w : World) : (Go.method 419 164 (.agg #[h]) "Elem").run Tryz.prog w = .ok (232, .agg #[h]) w := by kernel_rfl
theorem Tryz.asMethodImplements (h : Value) (w : World) : (Go.method 419 164 (.agg #[h]) "Implements").run Tryz.prog w = .ok (233, .agg #[h]) w := by kernel_rfl
theorem Tryz.asMethodAssignableTo (h : Value) (w : World) : (Go.method 419 164 (.agg #[h]) "AssignableTo").run Tryz.prog w = .ok (230, .agg #[h]) w := by kernel_rfl
theorem Tryz.asElem (w : World) : (ReflectliteType.method ReflectliteType.elem #[.agg #[.pointer (some ⟨9, 74, none⟩)]]).run Tryz.prog w = .ok (.iface 164 (.agg #[.pointer (some ⟨9, 40, none⟩)])) w := by kernel_rfl
theorem Tryz.asImplements (w : World) : (ReflectliteType.relation "Implements" ReflectliteType.implements_ #[.agg #[.pointer (some ⟨9, 40, none⟩)], .iface 164 (.agg #[.pointer (some ⟨9, 35, none⟩)])]).run Tryz.prog w = .ok (.bool true) w := by kernel_rfl
theorem Tryz.asTypeOfF (v : Value) (w : World) : (ReflectliteType.typeOf #[.iface 129 v]).run Tryz.prog w = .ok (.iface 164 (.agg #[.pointer (some ⟨9, 129, none⟩)])) w := by kernel_rfl
theorem Tryz.asAssignE (w : World) : (ReflectliteType.relation "AssignableTo" ReflectliteType.assignableTo #[.agg #[.pointer (some ⟨9, 40, none⟩)], .iface 164 (.agg #[.pointer (some ⟨9, 40, none⟩)])]).run Tryz.prog w = .ok (.bool true) w := by kernel_rfl
theorem Tryz.asAssignF (w : World) : (ReflectliteType.relation "AssignableTo" ReflectliteType.assignableTo #[.agg #[.pointer (some ⟨9, 129, none⟩)], .iface 164 (.agg #[.pointer (some ⟨9, 40, none⟩)])]).run Tryz.prog w = .ok (.bool false) w := by kernel_rfl
theorem Tryz.asValueOfE (c : Int) (w : World) : (ReflectliteValue.unpack (.iface 40 (.int .i64 c))).run Tryz.prog w
    = .ok (.agg #[.pointer (some ⟨9, 40, none⟩), .pointer (some ⟨w.heap.size, 0, none⟩), .int .u64 130]) (w.alloc (.cells #[.int .i64 c] 40)) := by kernel_rfl
theorem Tryz.asElemOf (w : World) : (Rtype.elem? 74).run Tryz.prog w = .ok (some 40) w := by kernel_rfl
theorem Tryz.asMk (p : Addr) (w : World) : (ReflectliteValue.mk 40 p ReflectliteValue.flagAddr).run Tryz.prog w = .ok (.agg #[.pointer (some ⟨9, 40, none⟩), .pointer (some p), .int .u64 386]) w := by kernel_rfl
theorem Tryz.asElemV (a p : Addr) (W : World) (ha : W.cell? a = some (.pointer (some p))) :
    (ReflectliteValue.method (ReflectliteValue.valueError "reflectlite.Value.Elem" 0) ReflectliteValue.elem #[.agg #[.pointer (some ⟨9, 74, none⟩), .pointer (some a), .int .u64 150]]).run Tryz.prog W
      = .ok (.agg #[.pointer (some ⟨9, 40, none⟩), .pointer (some p), .int .u64 386]) W := by
  rw [rlm]
  simp only [Sem.run_bind, Tryz.asParts, Result.andThen]
  simp [ReflectliteValue.elem, loadVar, isAgg, underlying, Tryz.underlying74, ha, Result.andThen, Tryz.asElemOf, Tryz.asMk]
theorem rls (v x : Value) : ReflectliteValue.set #[v, x] = (do
    let (some (dst, a, fl), some (src, b, _)) := (← ReflectliteValue.parts v, ← ReflectliteValue.parts x)
      | unsupported (.noEntry "extern/(internal/reflectlite.Value).Set.zeroValue")
    if fl / ReflectliteValue.flagAddr % 2 == 0 then unsupported (.noEntry "extern/(internal/reflectlite.Value).Set.unaddressable")
    let val ← loadVar src b
    if ← Rtype.directlyAssignable dst src then storeVar dst a val
    else if ← Rtype.implements dst src then
      if (← Rtype.kind src) == 20 then
        match val with
        | .nilIface => unsupported (.noEntry "extern/reflectlite: a nil value of one interface type handed on as a value of another")
        | _ => storeVar dst a val
      else storeVar dst a (.iface src val)
    else panicString ("reflectlite.Set: value of type " ++ (← Rtype.spelt src) ++ " is not assignable to type " ++ (← Rtype.spelt dst))
    pure (.tuple #[])) := rfl
theorem Tryz.asPartsA (a : Addr) (w : World) : (ReflectliteValue.parts (.agg #[.pointer (some ⟨9, 40, none⟩), .pointer (some a), .int .u64 386])).run Tryz.prog w = .ok (some (40, a, 386)) w := by kernel_rfl
theorem Tryz.asPartsB (a : Addr) (w : World) : (ReflectliteValue.parts (.agg #[.pointer (some ⟨9, 40, none⟩), .pointer (some a), .int .u64 130])).run Tryz.prog w = .ok (some (40, a, 130)) w := by kernel_rfl
theorem Tryz.asDirect (w : World) : (Rtype.directlyAssignable 40 40).run Tryz.prog w = .ok true w := by kernel_rfl
theorem Tryz.asSet (ta b : Addr) (c : Int) (old : Value) (W : World) (hb : W.cell? b = some (.int .i64 c)) (ht : W.cell? ta = some old) (hf : W.frozen? ta = false) :
    (ReflectliteValue.set #[.agg #[.pointer (some ⟨9, 40, none⟩), .pointer (some ta), .int .u64 386], .agg #[.pointer (some ⟨9, 40, none⟩), .pointer (some b), .int .u64 130]]).run Tryz.prog W
      = .ok (.tuple #[]) (W.setCell ta (.int .i64 c)) := by
  rw [rls]
  simp only [Sem.run_bind, Tryz.asPartsA, Tryz.asPartsB, Result.andThen]
  simp [ReflectliteValue.flagAddr, loadVar, isAgg, underlying, Tryz.underlying40, hb, Result.andThen, Tryz.asDirect, storeVar, Value.cells, storeCells, Addr.add]
  rw [run_store Tryz.prog W ta _ _ (by rfl)]
  simp [ht, hf]
theorem Tryz.fNoAs (v : Value) (xT : TypeId) (w : World) : (Instr.typeAssert (.iface 129 v) xT 169 true).run Tryz.prog w = .ok (.tuple #[.nilIface, .bool false]) w := run_typeAssert_lacksB Tryz.underlying169 (by kernel_rfl) (by kernel_rfl) v xT w
theorem Tryz.fUnwrap (v : Value) (xT : TypeId) (w : World) : (Instr.typeAssert (.iface 129 v) xT 172 true).run Tryz.prog w = .ok (.tuple #[.iface 129 v, .bool true]) w := run_typeAssert_hasB Tryz.underlying172 (by kernel_rfl) v xT w
theorem Tryz.fMethodUnwrap (a : Addr) (w : World) : (Go.method 419 129 (.pointer (some a)) "Unwrap").run Tryz.prog w = .ok (228, .pointer (some a)) w := by kernel_rfl
theorem Tryz.fNilAhead (a : Addr) (w : World) : (nilAhead 419 129 (.pointer (some a)) "Unwrap").run Tryz.prog w = .ok (some false) w := by kernel_rfl
end Go.Proofs.YtecfaaeaipjlaaaGreatDoor
