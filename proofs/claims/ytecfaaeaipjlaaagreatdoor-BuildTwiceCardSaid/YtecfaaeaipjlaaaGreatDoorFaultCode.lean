/- errors.As at a code, and fault.Code, walked. -/
import Derived.Test.YtecfaaeaipjlaaaGreatDoorFaultAs
namespace Go.Proofs.YtecfaaeaipjlaaaGreatDoor
open Go.RowKit Go.Stop Go.Extern Go.Extern.Stop

theorem ErrAt.shape {w : World} : ∀ {d : Nat} {c : Int} {v : Value}, ErrAt w d c v → ∃ t u, v = .iface t u
  | 0, _, _ => fun h => ⟨_, _, h⟩
  | _ + 1, _, _ => fun ⟨_, _, _, h, _⟩ => ⟨_, _, h⟩
theorem unwrap_calls (g : Nat) (p : ByteArray) (x : Value) (w : World) (hg : w.heap[g]? = some (.cells #[.string p, x] 131 (0, 0))) : Calls Tryz.prog 228 #[.pointer (some ⟨g, 0, none⟩)] w fun e w' => e = .returned x ∧ w' = w := by
  have cg := blk_cells hg
  clear hg
  go_enter Tryz.func228, Tryz.ntmps228
  go_wp2
  go_ret
  exact ⟨rfl, rfl⟩

set_option maxRecDepth 100000 in
set_option maxHeartbeats 4000000 in
theorem as_loop (d : Nat) (c c0 : Int) (err : Value) (gt gv : Nat) (w : World) (hE : ErrAt w d c err)
    (ht : w.heap[gt]? = some (.cells #[.int .i64 c0] 40 (0, 0))) (hv : w.heap[gv]? = some (.cells #[.pointer (some ⟨gt, 0, none⟩)] 74 (0, 0))) :
    Calls Tryz.prog 53 #[err, .iface 74 (.pointer (some ⟨gt, 0, none⟩)), .agg #[.pointer (some ⟨9, 74, none⟩), .pointer (some ⟨gv, 0, none⟩), .int .u64 150], .iface 164 (.agg #[.pointer (some ⟨9, 40, none⟩)])] w fun e w' =>
      e = .returned (.bool true) ∧ w'.heap[gt]? = some (.cells #[.int .i64 c] 40 (0, 0)) ∧ Only (fun k => k = gt) w w' := by
  have hT := @run_callFunc_extern Tryz.prog 79 _ ReflectliteType.typeOf Tryz.func79 (by kernel_rfl) (by kernel_rfl) (by kernel_rfl) (by kernel_rfl)
  have hA := @run_callFunc_extern Tryz.prog 230 _ (ReflectliteType.relation "AssignableTo" ReflectliteType.assignableTo) Tryz.func230 (by kernel_rfl) (by kernel_rfl) (by kernel_rfl) (by kernel_rfl)
  have hEl := @run_callFunc_extern Tryz.prog 80 _ (ReflectliteValue.method (ReflectliteValue.valueError "reflectlite.Value.Elem" 0) ReflectliteValue.elem) Tryz.func80 (by kernel_rfl) (by kernel_rfl) (by kernel_rfl) (by kernel_rfl)
  have hVo := @run_callFunc_extern Tryz.prog 50 _ (fun args => ReflectliteValue.unpack (args.getD 0 (.tuple #[]))) Tryz.func50 (by kernel_rfl) (by kernel_rfl) (by kernel_rfl) (by kernel_rfl)
  have hSe := @run_callFunc_extern Tryz.prog 81 _ ReflectliteValue.set Tryz.func81 (by kernel_rfl) (by kernel_rfl) (by kernel_rfl) (by kernel_rfl)
  have x1 := Tryz.nTypeOf
  have x2 := Tryz.asTypeOfF
  have x3 := Tryz.asMethodAssignableTo
  have x4 := Tryz.asAssignE
  have x5 := Tryz.asAssignF
  have x6 := Tryz.fNoAs
  have x7 := Tryz.fUnwrap
  have x8 := Tryz.fMethodUnwrap
  have x9 := Tryz.fNilAhead
  have y1 := Tryz.asValueOfE
  have hlt := blk_lt ht
  have hlv := blk_lt hv
  have HE := Ap.of (hE.below (bel_alloc w (.cells #[.pointer (some ⟨9, 74, none⟩), .pointer (some ⟨gv, 0, none⟩), .int .u64 150] 116)))
  have HT := Ap.of ht
  have HV := Ap.of hv
  clear hE ht hv
  go_enter Tryz.func53, Tryz.ntmps53
  go_wp2
  go_loopg [0] d (fun k v wr => wr = w.alloc (.cells #[.pointer (some ⟨9, 74, none⟩), .pointer (some ⟨gv, 0, none⟩), .int .u64 150] 116) ∧ Ap (ErrAt wr k c v))
  case atStart => exact ⟨rfl, HE⟩
  case round =>
    obtain ⟨rfl, HE⟩ := hrel
    cases gk with
    | zero =>
      have hv := HE.out
      simp only [ErrAt] at hv
      subst hv
      have v1 := blk_old (o' := .cells #[.pointer (some ⟨9, 74, none⟩), .pointer (some ⟨gv, 0, none⟩), .int .u64 150] 116) HV.out
      have t1 := blk_old (o' := .cells #[.int .i64 c] 40) (blk_old (o' := .cells #[.pointer (some ⟨9, 74, none⟩), .pointer (some ⟨gv, 0, none⟩), .int .u64 150] 116) HT.out)
      have el := Tryz.asElemV ⟨gv, 0, none⟩ ⟨gt, 0, none⟩ _ (by rw [blk_cells v1]; rfl)
      have st := Tryz.asSet ⟨gt, 0, none⟩ ⟨w.heap.size + 1, 0, none⟩ c (.int .i64 c0) _ (by rw [World.cell?_alloc_at _ _ _ _ (by simp)]; rfl) (by rw [blk_cells t1]; rfl) (blk_free t1 0)
      clear v1 t1 HE
      go_wp2
      go_ret
      have hb := blk_set HT.out 0 (.int .i64 c)
      exact ⟨rfl, blk_old (blk_old (by simpa using hb)), ((Only.setCell w ⟨gt, 0, none⟩ (.int .i64 c)).alloc _).alloc _⟩
    | succ k =>
      obtain ⟨g, p, x, rfl, hg, hx⟩ := HE.out
      have HX := Ap.of hx
      have HG := Ap.of hg
      obtain ⟨tx, ux, rfl⟩ := hx.shape
      clear hx hg
      go_wp2_with (go_at_call 228; refine (unwrap_calls g p _ _ HG.out).mono ?_; rintro e w3 ⟨rfl, rfl⟩)
      go_roundg k
      case measure => omega
      case rel => exact ⟨rfl, HX⟩

set_option maxRecDepth 100000 in
set_option maxHeartbeats 4000000 in
theorem as_calls (d : Nat) (c c0 : Int) (err : Value) (gt : Nat) (w : World) (hE : ErrAt w d c err) (ht : w.heap[gt]? = some (.cells #[.int .i64 c0] 40 (0, 0)))
    (hg : w.cell? ⟨0, 0, none⟩ = some (.iface 164 (.agg #[.pointer (some ⟨9, 35, none⟩)]))) :
    Calls Tryz.prog 27 #[err, .iface 74 (.pointer (some ⟨gt, 0, none⟩))] w fun e w' =>
      e = .returned (.bool true) ∧ w'.heap[gt]? = some (.cells #[.int .i64 c] 40 (0, 0)) ∧ Only (fun k => k = gt) w w' := by
  obtain ⟨te, ue, rfl⟩ := hE.shape
  have hVo := @run_callFunc_extern Tryz.prog 50 _ (fun args => ReflectliteValue.unpack (args.getD 0 (.tuple #[]))) Tryz.func50 (by kernel_rfl) (by kernel_rfl) (by kernel_rfl) (by kernel_rfl)
  have hTy := @run_callFunc_extern Tryz.prog 51 _ (ReflectliteValue.methodAny (ReflectliteValue.valueError "reflectlite.Value.Type" 0) (fun t _ _ _ => ReflectliteType.toType t)) Tryz.func51 (by kernel_rfl) (by kernel_rfl) (by kernel_rfl) (by kernel_rfl)
  have hIn := @run_callFunc_extern Tryz.prog 52 _ (ReflectliteValue.method (ReflectliteValue.valueError "reflectlite.Value.IsNil" 0) ReflectliteValue.isNil) Tryz.func52 (by kernel_rfl) (by kernel_rfl) (by kernel_rfl) (by kernel_rfl)
  have hKi := @run_callFunc_extern Tryz.prog 218 _ (ReflectliteType.abiMethod fun t => do pure (.int .u8 (← Rtype.kind t))) Tryz.func218 (by kernel_rfl) (by kernel_rfl) (by kernel_rfl) (by kernel_rfl)
  have hEl := @run_callFunc_extern Tryz.prog 232 _ (ReflectliteType.method ReflectliteType.elem) Tryz.func232 (by kernel_rfl) (by kernel_rfl) (by kernel_rfl) (by kernel_rfl)
  have hIm := @run_callFunc_extern Tryz.prog 233 _ (ReflectliteType.relation "Implements" ReflectliteType.implements_) Tryz.func233 (by kernel_rfl) (by kernel_rfl) (by kernel_rfl) (by kernel_rfl)
  have x1 := Tryz.asValueOf
  have x2 := Tryz.asType
  have x3 := Tryz.asMethodKind
  have x4 := Tryz.asKindP
  have x5 := Tryz.asKindE
  have x6 := Tryz.asMethodElem
  have x7 := Tryz.asMethodImplements
  have x8 := Tryz.asElem
  have x9 := Tryz.asImplements
  have hlt := blk_lt ht
  have hlo : 0 < w.heap.size := World.block_lt_of_cell? w _ hg
  have hlo2 : 0 < w.heap.size + 1 := by omega
  have hg2 := ((World.cell?_alloc_lt (w.alloc (.cells #[.pointer (some ⟨gt, 0, none⟩)] 74)) (.cells #[.pointer (some ⟨9, 74, none⟩), .pointer (some ⟨w.heap.size, 0, none⟩), .int .u64 150] 116) ⟨0, 0, none⟩ (by first | (simp; done) | (simp; omega))).trans (World.cell?_alloc_lt w (.cells #[.pointer (some ⟨gt, 0, none⟩)] 74) ⟨0, 0, none⟩ hlo)).trans hg
  have n8 := Tryz.asIsNil ⟨w.heap.size, 0, none⟩ ⟨gt, 0, none⟩ ((w.alloc (.cells #[.pointer (some ⟨gt, 0, none⟩)] 74)).alloc (.cells #[.pointer (some ⟨9, 74, none⟩), .pointer (some ⟨w.heap.size, 0, none⟩), .int .u64 150] 116)) (by simp)
  have HE := Ap.of ((hE.below (bel_alloc w (.cells #[.pointer (some ⟨gt, 0, none⟩)] 74))).below (bel_alloc _ (.cells #[.pointer (some ⟨9, 74, none⟩), .pointer (some ⟨w.heap.size, 0, none⟩), .int .u64 150] 116)))
  have HT := Ap.of ht
  clear hE ht
  go_enter Tryz.func27, Tryz.ntmps27
  go_wp2_with fail
  refine (as_loop d c c0 _ gt w.heap.size _ HE.out (blk_old (blk_old HT.out)) (blk_old (blk_new rfl))).mono ?_
  rintro e w1 ⟨rfl, h1, h2⟩
  have H1 := Ap.of h1
  have H2 := Ap.of h2
  clear h1 h2
  go_wp2_with fail
  go_ret
  exact ⟨rfl, H1.out, ((Only.of_below (bel_step (bel_alloc _ _) (bel_alloc _ _)) (fun k => k = gt)).trans H2.out (fun i hi => .inl hi))⟩

set_option maxRecDepth 100000 in
set_option maxHeartbeats 4000000 in
theorem code_calls (d : Nat) (c : Int) (err : Value) (w : World) (hE : ErrAt w d c err)
    (hg : w.cell? ⟨0, 0, none⟩ = some (.iface 164 (.agg #[.pointer (some ⟨9, 35, none⟩)]))) :
    Calls Tryz.prog 13 #[err] w fun e w' => e = .returned (.int .i64 c) ∧ Below w.heap.size w w' := by
  obtain ⟨te, ue, rfl⟩ := hE.shape
  have hlo : 0 < w.heap.size := World.block_lt_of_cell? w _ hg
  have HE := Ap.of (hE.below (bel_alloc w (.cells #[.int .i64 0] 40)))
  have HG := Ap.of ((World.cell?_alloc_lt _ (.cells #[.int .i64 0] 40) ⟨0, 0, none⟩ hlo).trans hg)
  clear hE hg
  go_enter Tryz.func13, Tryz.ntmps13
  go_wp2_with fail
  refine (as_calls d c 0 _ w.heap.size _ HE.out (blk_new rfl) HG.out).mono ?_
  rintro e w1 ⟨rfl, h1, h2⟩
  have H2 := Ap.of h2
  have c1 := blk_cells h1
  clear h1 h2
  go_wp2_with fail
  go_ret
  exact ⟨rfl, bel_only (bel_alloc _ _) (by simp) H2.out (fun i hi => by omega)⟩
theorem code_nil (w : World) : Calls Tryz.prog 13 #[.nilIface] w fun e w' => e = .returned (.int .i64 0) ∧ w' = w := by
  go_enter Tryz.func13, Tryz.ntmps13
  go_wp2
  go_ret
  exact ⟨rfl, rfl⟩
end Go.Proofs.YtecfaaeaipjlaaaGreatDoor
