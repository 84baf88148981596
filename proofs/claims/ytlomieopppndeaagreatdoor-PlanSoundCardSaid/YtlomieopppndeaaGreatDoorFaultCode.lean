/- errors.As at a code, and fault.Code, walked. -/
import Derived.Test.YtlomieopppndeaaGreatDoorFaultAs
namespace Go.Proofs.YtlomieopppndeaaGreatDoor
open Go.RowKit Go.Stop Go.Extern Go.Extern.Stop

theorem ErrAt.shape {w : World} : ∀ {d : Nat} {c : Int} {v : Value}, ErrAt w d c v → ∃ t u, v = .iface t u
  | 0, _, _ => fun h => ⟨_, _, h⟩
  | _ + 1, _, _ => fun ⟨_, _, _, h, _⟩ => ⟨_, _, h⟩
theorem unwrap_calls (g : Nat) (p : ByteArray) (x : Value) (w : World) (hg : w.heap[g]? = some (.cells #[.string p, x] 124 (0, 0))) : Calls Tryz.prog 197 #[.pointer (some ⟨g, 0, none⟩)] w fun e w' => e = .returned x ∧ w' = w := by
  have cg := blk_cells hg
  clear hg
  go_enter Tryz.func197, Tryz.ntmps197
  go_wp2
  go_ret
  exact ⟨rfl, rfl⟩

set_option maxRecDepth 100000 in
set_option maxHeartbeats 4000000 in
theorem as_loop (d : Nat) (c c0 : Int) (err : Value) (gt gv : Nat) (w : World) (hE : ErrAt w d c err)
    (ht : w.heap[gt]? = some (.cells #[.int .i64 c0] 59 (0, 0))) (hv : w.heap[gv]? = some (.cells #[.pointer (some ⟨gt, 0, none⟩)] 100 (0, 0))) :
    Calls Tryz.prog 91 #[err, .iface 100 (.pointer (some ⟨gt, 0, none⟩)), .agg #[.pointer (some ⟨14, 100, none⟩), .pointer (some ⟨gv, 0, none⟩), .int .u64 150], .iface 167 (.agg #[.pointer (some ⟨14, 59, none⟩)])] w fun e w' =>
      e = .returned (.bool true) ∧ w'.heap[gt]? = some (.cells #[.int .i64 c] 59 (0, 0)) ∧ Only (fun k => k = gt) w w' := by
  have hT := @run_callFunc_extern Tryz.prog 115 _ ReflectliteType.typeOf Tryz.func115 (by kernel_rfl) (by kernel_rfl) (by kernel_rfl) (by kernel_rfl)
  have hA := @run_callFunc_extern Tryz.prog 203 _ (ReflectliteType.relation "AssignableTo" ReflectliteType.assignableTo) Tryz.func203 (by kernel_rfl) (by kernel_rfl) (by kernel_rfl) (by kernel_rfl)
  have hEl := @run_callFunc_extern Tryz.prog 120 _ (ReflectliteValue.method (ReflectliteValue.valueError "reflectlite.Value.Elem" 0) ReflectliteValue.elem) Tryz.func120 (by kernel_rfl) (by kernel_rfl) (by kernel_rfl) (by kernel_rfl)
  have hVo := @run_callFunc_extern Tryz.prog 88 _ (fun args => ReflectliteValue.unpack (args.getD 0 (.tuple #[]))) Tryz.func88 (by kernel_rfl) (by kernel_rfl) (by kernel_rfl) (by kernel_rfl)
  have hSe := @run_callFunc_extern Tryz.prog 121 _ ReflectliteValue.set Tryz.func121 (by kernel_rfl) (by kernel_rfl) (by kernel_rfl) (by kernel_rfl)
  have x1 := Tryz.nTypeOf
  have x2 := Tryz.asTypeOfF
  have x3 := Tryz.asMethodAssignableTo
  have x4 := Tryz.asAssignE
  have x5 := Tryz.asAssignF
  have x6 := Tryz.fNoAs
  have x7 := Tryz.fUnwrap
  have x8 := Tryz.fMethodUnwrap
  have x9 := Tryz.fNilAhead
  have y1 := Tryz.asValueOfE
  have hlt := blk_lt ht
  have hlv := blk_lt hv
  have HE := Ap.of (hE.below (bel_alloc w (.cells #[.pointer (some ⟨14, 100, none⟩), .pointer (some ⟨gv, 0, none⟩), .int .u64 150] 132)))
  have HT := Ap.of ht
  have HV := Ap.of hv
  clear hE ht hv
  go_enter Tryz.func91, Tryz.ntmps91
  go_wp2
  go_loopg [0] d (fun k v wr => wr = w.alloc (.cells #[.pointer (some ⟨14, 100, none⟩), .pointer (some ⟨gv, 0, none⟩), .int .u64 150] 132) ∧ Ap (ErrAt wr k c v))
  case atStart => exact ⟨rfl, HE⟩
  case round =>
    obtain ⟨rfl, HE⟩ := hrel
    cases gk with
    | zero =>
      have hv := HE.out
      simp only [ErrAt] at hv
      subst hv
      have v1 := blk_old (o' := .cells #[.pointer (some ⟨14, 100, none⟩), .pointer (some ⟨gv, 0, none⟩), .int .u64 150] 132) HV.out
      have t1 := blk_old (o' := .cells #[.int .i64 c] 59) (blk_old (o' := .cells #[.pointer (some ⟨14, 100, none⟩), .pointer (some ⟨gv, 0, none⟩), .int .u64 150] 132) HT.out)
      have el := Tryz.asElemV ⟨gv, 0, none⟩ ⟨gt, 0, none⟩ _ (by rw [blk_cells v1]; rfl)
      have st := Tryz.asSet ⟨gt, 0, none⟩ ⟨w.heap.size + 1, 0, none⟩ c (.int .i64 c0) _ (by rw [World.cell?_alloc_at _ _ _ _ (by simp)]; rfl) (by rw [blk_cells t1]; rfl) (blk_free t1 0)
      clear v1 t1 HE
      go_wp2
      go_ret
      have hb := blk_set HT.out 0 (.int .i64 c)
      exact ⟨rfl, blk_old (blk_old (by simpa using hb)), ((Only.setCell w ⟨gt, 0, none⟩ (.int .i64 c)).alloc _).alloc _⟩
    | succ k =>
      obtain ⟨g, p, x, rfl, hg, hx⟩ := HE.out
      have HX := Ap.of hx
      have HG := Ap.of hg
      obtain ⟨tx, ux, rfl⟩ := hx.shape
      clear hx hg
      go_wp2_with (go_at_call 197; refine (unwrap_calls g p _ _ HG.out).mono ?_; rintro e w3 ⟨rfl, rfl⟩)
      go_roundg k
      case measure => omega
      case rel => exact ⟨rfl, HX⟩

set_option maxRecDepth 100000 in
set_option maxHeartbeats 4000000 in
theorem as_calls (d : Nat) (c c0 : Int) (err : Value) (gt : Nat) (w : World) (hE : ErrAt w d c err) (ht : w.heap[gt]? = some (.cells #[.int .i64 c0] 59 (0, 0)))
    (hg : w.cell? ⟨4, 0, none⟩ = some (.iface 167 (.agg #[.pointer (some ⟨14, 56, none⟩)]))) :
    Calls Tryz.prog 59 #[err, .iface 100 (.pointer (some ⟨gt, 0, none⟩))] w fun e w' =>
      e = .returned (.bool true) ∧ w'.heap[gt]? = some (.cells #[.int .i64 c] 59 (0, 0)) ∧ Only (fun k => k = gt) w w' := by
  obtain ⟨te, ue, rfl⟩ := hE.shape
  have hVo := @run_callFunc_extern Tryz.prog 88 _ (fun args => ReflectliteValue.unpack (args.getD 0 (.tuple #[]))) Tryz.func88 (by kernel_rfl) (by kernel_rfl) (by kernel_rfl) (by kernel_rfl)
  have hTy := @run_callFunc_extern Tryz.prog 89 _ (ReflectliteValue.methodAny (ReflectliteValue.valueError "reflectlite.Value.Type" 0) (fun t _ _ _ => ReflectliteType.toType t)) Tryz.func89 (by kernel_rfl) (by kernel_rfl) (by kernel_rfl) (by kernel_rfl)
  have hIn := @run_callFunc_extern Tryz.prog 90 _ (ReflectliteValue.method (ReflectliteValue.valueError "reflectlite.Value.IsNil" 0) ReflectliteValue.isNil) Tryz.func90 (by kernel_rfl) (by kernel_rfl) (by kernel_rfl) (by kernel_rfl)
  have hKi := @run_callFunc_extern Tryz.prog 192 _ (ReflectliteType.abiMethod fun t => do pure (.int .u8 (← Rtype.kind t))) Tryz.func192 (by kernel_rfl) (by kernel_rfl) (by kernel_rfl) (by kernel_rfl)
  have hEl := @run_callFunc_extern Tryz.prog 205 _ (ReflectliteType.method ReflectliteType.elem) Tryz.func205 (by kernel_rfl) (by kernel_rfl) (by kernel_rfl) (by kernel_rfl)
  have hIm := @run_callFunc_extern Tryz.prog 206 _ (ReflectliteType.relation "Implements" ReflectliteType.implements_) Tryz.func206 (by kernel_rfl) (by kernel_rfl) (by kernel_rfl) (by kernel_rfl)
  have x1 := Tryz.asValueOf
  have x2 := Tryz.asType
  have x3 := Tryz.asMethodKind
  have x4 := Tryz.asKindP
  have x5 := Tryz.asKindE
  have x6 := Tryz.asMethodElem
  have x7 := Tryz.asMethodImplements
  have x8 := Tryz.asElem
  have x9 := Tryz.asImplements
  have hlt := blk_lt ht
  have hlo : 4 < w.heap.size := World.block_lt_of_cell? w _ hg
  have hlo2 : 4 < w.heap.size + 1 := by omega
  have hg2 := ((World.cell?_alloc_lt (w.alloc (.cells #[.pointer (some ⟨gt, 0, none⟩)] 100)) (.cells #[.pointer (some ⟨14, 100, none⟩), .pointer (some ⟨w.heap.size, 0, none⟩), .int .u64 150] 132) ⟨4, 0, none⟩ (by simp; omega)).trans (World.cell?_alloc_lt w (.cells #[.pointer (some ⟨gt, 0, none⟩)] 100) ⟨4, 0, none⟩ hlo)).trans hg
  have n8 := Tryz.asIsNil ⟨w.heap.size, 0, none⟩ ⟨gt, 0, none⟩ ((w.alloc (.cells #[.pointer (some ⟨gt, 0, none⟩)] 100)).alloc (.cells #[.pointer (some ⟨14, 100, none⟩), .pointer (some ⟨w.heap.size, 0, none⟩), .int .u64 150] 132)) (by simp)
  have HE := Ap.of ((hE.below (bel_alloc w (.cells #[.pointer (some ⟨gt, 0, none⟩)] 100))).below (bel_alloc _ (.cells #[.pointer (some ⟨14, 100, none⟩), .pointer (some ⟨w.heap.size, 0, none⟩), .int .u64 150] 132)))
  have HT := Ap.of ht
  clear hE ht
  go_enter Tryz.func59, Tryz.ntmps59
  go_wp2_with fail
  refine (as_loop d c c0 _ gt w.heap.size _ HE.out (blk_old (blk_old HT.out)) (blk_old (blk_new rfl))).mono ?_
  rintro e w1 ⟨rfl, h1, h2⟩
  have H1 := Ap.of h1
  have H2 := Ap.of h2
  clear h1 h2
  go_wp2_with fail
  go_ret
  exact ⟨rfl, H1.out, ((Only.of_below (bel_step (bel_alloc _ _) (bel_alloc _ _)) (fun k => k = gt)).trans H2.out (fun i hi => .inl hi))⟩

set_option maxRecDepth 100000 in
set_option maxHeartbeats 4000000 in
theorem code_calls (d : Nat) (c : Int) (err : Value) (w : World) (hE : ErrAt w d c err)
    (hg : w.cell? ⟨4, 0, none⟩ = some (.iface 167 (.agg #[.pointer (some ⟨14, 56, none⟩)]))) :
    Calls Tryz.prog 30 #[err] w fun e w' => e = .returned (.int .i64 c) ∧ Below w.heap.size w w' := by
  obtain ⟨te, ue, rfl⟩ := hE.shape
  have hlo : 4 < w.heap.size := World.block_lt_of_cell? w _ hg
  have HE := Ap.of (hE.below (bel_alloc w (.cells #[.int .i64 0] 59)))
  have HG := Ap.of ((World.cell?_alloc_lt _ (.cells #[.int .i64 0] 59) ⟨4, 0, none⟩ hlo).trans hg)
  clear hE hg
  go_enter Tryz.func30, Tryz.ntmps30
  go_wp2_with fail
  refine (as_calls d c 0 _ w.heap.size _ HE.out (blk_new rfl) HG.out).mono ?_
  rintro e w1 ⟨rfl, h1, h2⟩
  have H2 := Ap.of h2
  have c1 := blk_cells h1
  clear h1 h2
  go_wp2_with fail
  go_ret
  exact ⟨rfl, bel_only (bel_alloc _ _) (by simp) H2.out (fun i hi => by omega)⟩
theorem code_nil (w : World) : Calls Tryz.prog 30 #[.nilIface] w fun e w' => e = .returned (.int .i64 0) ∧ w' = w := by
  go_enter Tryz.func30, Tryz.ntmps30
  go_wp2
  go_ret
  exact ⟨rfl, rfl⟩
end Go.Proofs.YtlomieopppndeaaGreatDoor
