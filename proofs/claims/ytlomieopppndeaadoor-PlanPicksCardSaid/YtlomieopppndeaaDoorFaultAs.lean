/- Errors: errors.As at a code; fault.Code. -/
import Derived.Test.YtlomieopppndeaaDoorFault
import Derived.RowKitTokens
import Derived.Deep.LoopGhost
namespace Go.Proofs.YtlomieopppndeaaDoor
open Go.RowKit Go.Stop Go.Extern Go.Extern.Stop

/-- An error of a code: faults, one in another, and the code in the innermost. -/
def ErrAt (w : World) : Nat → Int → Value → Prop
  | 0, c, v => v = .iface 56 (.int .i64 c)
  | d + 1, c, v => ∃ (g : Nat) (p : ByteArray) (x : Value), v = .iface 88 (.pointer (some ⟨g, 0, none⟩)) ∧ w.heap[g]? = some (.cells #[.string p, x] 90 (0, 0)) ∧ ErrAt w d c x
theorem ErrAt.below {w w' : World} (hb : Below w.heap.size w w') : ∀ {d : Nat} {c : Int} {v : Value}, ErrAt w d c v → ErrAt w' d c v
  | 0, _, _ => id
  | _ + 1, _, _ => by
    rintro ⟨g, p, x, h1, h2, h3⟩
    exact ⟨g, p, x, h1, blk_bel h2 hb, ErrAt.below hb h3⟩
theorem ErrAt.only {S : Nat → Prop} {w w' : World} (hb : Only S w w') (hs : ∀ g cs, w.heap[g]? = some (.cells cs 90 (0, 0)) → ¬ S g) : ∀ {d : Nat} {c : Int} {v : Value}, ErrAt w d c v → ErrAt w' d c v
  | 0, _, _ => id
  | _ + 1, _, _ => by
    rintro ⟨g, p, x, h1, h2, h3⟩
    exact ⟨g, p, x, h1, blk_only h2 hb (hs g _ h2), ErrAt.only hb hs h3⟩

theorem Tryd.asValueOf (t : Addr) (w : World) : (ReflectliteValue.unpack (.iface 77 (.pointer (some t)))).run Tryd.prog w
    = .ok (.agg #[.pointer (some ⟨14, 77, none⟩), .pointer (some ⟨w.heap.size, 0, none⟩), .int .u64 150]) (w.alloc (.cells #[.pointer (some t)] 77)) := by kernel_rfl
theorem Tryd.asType (a : Addr) (w : World) : (ReflectliteValue.methodAny (ReflectliteValue.valueError "reflectlite.Value.Type" 0) (fun t _ _ _ => ReflectliteType.toType t) #[.agg #[.pointer (some ⟨14, 77, none⟩), .pointer (some a), .int .u64 150]]).run Tryd.prog w
    = .ok (.iface 131 (.agg #[.pointer (some ⟨14, 77, none⟩)])) w := by kernel_rfl
theorem Tryd.asMethodKind (h : Value) (w : World) : (Go.method 325 131 (.agg #[h]) "Kind").run Tryd.prog w = .ok (137, h) w := by kernel_rfl
theorem Tryd.asKindP (w : World) : ((ReflectliteType.abiMethod fun t => (fun a : Nat => Value.int IntKind.u8 (a : Int)) <$> Rtype.kind t) #[.pointer (some ⟨14, 77, none⟩)]).run Tryd.prog w = .ok (.int .u8 22) w := by kernel_rfl
theorem Tryd.asKindE (w : World) : ((ReflectliteType.abiMethod fun t => (fun a : Nat => Value.int IntKind.u8 (a : Int)) <$> Rtype.kind t) #[.pointer (some ⟨14, 56, none⟩)]).run Tryd.prog w = .ok (.int .u8 2) w := by kernel_rfl
theorem rlm (z : Sem Value) (f : TypeId → Addr → Nat → Nat → Sem Value) (v : Value) :
    ReflectliteValue.method z f #[v] = (do match ← ReflectliteValue.parts v with | none => z | some (t, a, fl) => f t a fl (fl % 32)) := rfl
theorem Tryd.asParts (a : Addr) (w : World) : (ReflectliteValue.parts (.agg #[.pointer (some ⟨14, 77, none⟩), .pointer (some a), .int .u64 150])).run Tryd.prog w = .ok (some (77, a, 150)) w := by kernel_rfl
theorem Tryd.asIsNil (a p : Addr) (W : World) (ha : W.cell? a = some (.pointer (some p))) :
    (ReflectliteValue.method (ReflectliteValue.valueError "reflectlite.Value.IsNil" 0) ReflectliteValue.isNil #[.agg #[.pointer (some ⟨14, 77, none⟩), .pointer (some a), .int .u64 150]]).run Tryd.prog W = .ok (.bool false) W := by
  rw [rlm]
  simp only [Sem.run_bind, Tryd.asParts, Result.andThen]
  simp [ReflectliteValue.isNil, loadVar, isAgg, underlying, Tryd.underlying77, ha, Result.andThen]
theorem Tryd.asMethodElem (h : Value) (w : World) : (Go.method 325 131 (.agg #[h]) "Elem").run Tryd.prog w = .ok (150, .agg #[h]) w := by kernel_rfl
theorem Tryd.asMethodImplements (h : Value) (w : World) : (Go.method 325 131 (.agg #[h]) "Implements").run Tryd.prog w = .ok (151, .agg #[h]) w := by kernel_rfl
theorem Tryd.asMethodAssignableTo (h : Value) (w : World) : (Go.method 325 131 (.agg #[h]) "AssignableTo").run Tryd.prog w = .ok (148, .agg #[h]) w := by kernel_rfl
theorem Tryd.asElem (w : World) : (ReflectliteType.method ReflectliteType.elem #[.agg #[.pointer (some ⟨14, 77, none⟩)]]).run Tryd.prog w = .ok (.iface 131 (.agg #[.pointer (some ⟨14, 56, none⟩)])) w := by kernel_rfl
theorem Tryd.asImplements (w : World) : (ReflectliteType.relation "Implements" ReflectliteType.implements_ #[.agg #[.pointer (some ⟨14, 56, none⟩)], .iface 131 (.agg #[.pointer (some ⟨14, 52, none⟩)])]).run Tryd.prog w = .ok (.bool true) w := by kernel_rfl
theorem Tryd.asTypeOfF (v : Value) (w : World) : (ReflectliteType.typeOf #[.iface 88 v]).run Tryd.prog w = .ok (.iface 131 (.agg #[.pointer (some ⟨14, 88, none⟩)])) w := by kernel_rfl
theorem Tryd.asAssignE (w : World) : (ReflectliteType.relation "AssignableTo" ReflectliteType.assignableTo #[.agg #[.pointer (some ⟨14, 56, none⟩)], .iface 131 (.agg #[.pointer (some ⟨14, 56, none⟩)])]).run Tryd.prog w = .ok (.bool true) w := by kernel_rfl
theorem Tryd.asAssignF (w : World) : (ReflectliteType.relation "AssignableTo" ReflectliteType.assignableTo #[.agg #[.pointer (some ⟨14, 88, none⟩)], .iface 131 (.agg #[.pointer (some ⟨14, 56, none⟩)])]).run Tryd.prog w = .ok (.bool false) w := by kernel_rfl
theorem Tryd.asValueOfE (c : Int) (w : World) : (ReflectliteValue.unpack (.iface 56 (.int .i64 c))).run Tryd.prog w
    = .ok (.agg #[.pointer (some ⟨14, 56, none⟩), .pointer (some ⟨w.heap.size, 0, none⟩), .int .u64 130]) (w.alloc (.cells #[.int .i64 c] 56)) := by kernel_rfl
theorem Tryd.asElemOf (w : World) : (Rtype.elem? 77).run Tryd.prog w = .ok (some 56) w := by kernel_rfl
theorem Tryd.asMk (p : Addr) (w : World) : (ReflectliteValue.mk 56 p ReflectliteValue.flagAddr).run Tryd.prog w = .ok (.agg #[.pointer (some ⟨14, 56, none⟩), .pointer (some p), .int .u64 386]) w := by kernel_rfl
theorem Tryd.asElemV (a p : Addr) (W : World) (ha : W.cell? a = some (.pointer (some p))) :
    (ReflectliteValue.method (ReflectliteValue.valueError "reflectlite.Value.Elem" 0) ReflectliteValue.elem #[.agg #[.pointer (some ⟨14, 77, none⟩), .pointer (some a), .int .u64 150]]).run Tryd.prog W
      = .ok (.agg #[.pointer (some ⟨14, 56, none⟩), .pointer (some p), .int .u64 386]) W := by
  rw [rlm]
  simp only [Sem.run_bind, Tryd.asParts, Result.andThen]
  simp [ReflectliteValue.elem, loadVar, isAgg, underlying, Tryd.underlying77, ha, Result.andThen, Tryd.asElemOf, Tryd.asMk]
theorem rls (v x : Value) : ReflectliteValue.set #[v, x] = (do
    let (some (dst, a, fl), some (src, b, _)) := (← ReflectliteValue.parts v, ← ReflectliteValue.parts x)
      | unsupported (.noEntry "extern/(internal/reflectlite.Value).Set.zeroValue")
    if fl / ReflectliteValue.flagAddr % 2 == 0 then unsupported (.noEntry "extern/(internal/reflectlite.Value).Set.unaddressable")
    let val ← loadVar src b
    if ← Rtype.directlyAssignable dst src then storeVar dst a val
    else if ← Rtype.implements dst src then
      if (← Rtype.kind src) == 20 then
        match val with
        | .nilIface => unsupported (.noEntry "extern/reflectlite: a nil value of one interface type handed on as a value of another")
        | _ => storeVar dst a val
      else storeVar dst a (.iface src val)
    else panicString ("reflectlite.Set: value of type " ++ (← Rtype.spelt src) ++ " is not assignable to type " ++ (← Rtype.spelt dst))
    pure (.tuple #[])) := rfl
theorem Tryd.asPartsA (a : Addr) (w : World) : (ReflectliteValue.parts (.agg #[.pointer (some ⟨14, 56, none⟩), .pointer (some a), .int .u64 386])).run Tryd.prog w = .ok (some (56, a, 386)) w := by kernel_rfl
theorem Tryd.asPartsB (a : Addr) (w : World) : (ReflectliteValue.parts (.agg #[.pointer (some ⟨14, 56, none⟩), .pointer (some a), .int .u64 130])).run Tryd.prog w = .ok (some (56, a, 130)) w := by kernel_rfl
theorem Tryd.asDirect (w : World) : (Rtype.directlyAssignable 56 56).run Tryd.prog w = .ok true w := by kernel_rfl
theorem Tryd.asSet (ta b : Addr) (c : Int) (old : Value) (W : World) (hb : W.cell? b = some (.int .i64 c)) (ht : W.cell? ta = some old) (hf : W.frozen? ta = false) :
    (ReflectliteValue.set #[.agg #[.pointer (some ⟨14, 56, none⟩), .pointer (some ta), .int .u64 386], .agg #[.pointer (some ⟨14, 56, none⟩), .pointer (some b), .int .u64 130]]).run Tryd.prog W
      = .ok (.tuple #[]) (W.setCell ta (.int .i64 c)) := by
  rw [rls]
  simp only [Sem.run_bind, Tryd.asPartsA, Tryd.asPartsB, Result.andThen]
  simp [ReflectliteValue.flagAddr, loadVar, isAgg, underlying, Tryd.underlying56, hb, Result.andThen, Tryd.asDirect, storeVar, Value.cells, storeCells, Addr.add]
  rw [run_store Tryd.prog W ta _ _ (by rfl)]
  simp [ht, hf]
theorem Tryd.fNoAs (v : Value) (xT : TypeId) (w : World) : (Instr.typeAssert (.iface 88 v) xT 135 true).run Tryd.prog w = .ok (.tuple #[.nilIface, .bool false]) w := run_typeAssert_lacksB Tryd.underlying135 (by kernel_rfl) (by kernel_rfl) v xT w
theorem Tryd.fUnwrap (v : Value) (xT : TypeId) (w : World) : (Instr.typeAssert (.iface 88 v) xT 138 true).run Tryd.prog w = .ok (.tuple #[.iface 88 v, .bool true]) w := run_typeAssert_hasB Tryd.underlying138 (by kernel_rfl) v xT w
theorem Tryd.fMethodUnwrap (a : Addr) (w : World) : (Go.method 325 88 (.pointer (some a)) "Unwrap").run Tryd.prog w = .ok (142, .pointer (some a)) w := by kernel_rfl
theorem Tryd.fNilAhead (a : Addr) (w : World) : (nilAhead 325 88 (.pointer (some a)) "Unwrap").run Tryd.prog w = .ok (some false) w := by kernel_rfl
end Go.Proofs.YtlomieopppndeaaDoor
