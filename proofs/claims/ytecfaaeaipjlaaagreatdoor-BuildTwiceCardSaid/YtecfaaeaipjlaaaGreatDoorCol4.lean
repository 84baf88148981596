/- slices.Delete of the only pointer; an index is made ready. -/
import Derived.Test.YtecfaaeaipjlaaaGreatDoorCol3
import Derived.ArgAppend
namespace Go.Proofs.YtecfaaeaipjlaaaGreatDoor
open Go.RowKit
attribute [local go_sem] max2_int min2_int

theorem run_append_none {P : Program} (w : World) (t ty e : TypeId) (i : TypeInfo) (ht : P.underlying t = some (.slice e)) (hi : P.info? e = some i) (b off n cap : Nat) (hn : n ≤ cap) (A : Option Addr) (c : Nat) :
    (Builtin.append_ #[t, t] ty #[.slice (some ⟨b, off, none⟩) n cap, .slice A 0 c]).run P w = .ok (.slice (some ⟨b, off, none⟩) n cap) w := by
  cases A with
  | some ad =>
    have := run_append_room_cells (P := P) w t ty e i ht hi b off n cap ad 0 c [] (by simp) (fun j u h => by simp at h) (fun u h => by simp at h) (by omega) (fun j h => by simp at h) (fun j h => by simp at h)
    exact this
  | none => simp [Builtin.append_, run_underlying ht, sizeOf, typeInfo, hi, Builtin.lenOf, Builtin.firstCells, hn, storeCells]
theorem Tryz.infoPM : (Tryz.prog.info? 92).map (fun i => (i.zero, i.size)) = some (some (.pointer none), 1) := by kernel_rfl
theorem pm_slA (g k : Nat) (h : 1 ≤ k) (W : World) : (Instr.slice 62 (.slice (some ⟨g, 0, none⟩) 1 k) (some (.int .i64 0)) (some (.int .i64 1)) (some (.int .i64 1))).run Tryz.prog W = .ok (.slice (some ⟨g, 0, none⟩) 1 1) W := by
  have e1 : (1 : Int) ≤ (k : Int) := by omega
  simp [Instr.slice, Instr.sliceBounds, go_sem, e1]
theorem pm_slB (g k : Nat) (h : 1 ≤ k) (W : World) : (Instr.slice 62 (.slice (some ⟨g, 0, none⟩) 1 k) none (some (.int .i64 0)) none).run Tryz.prog W = .ok (.slice (some ⟨g, 0, none⟩) 0 k) W := by
  have e1 : (0 : Int) ≤ (k : Int) := by omega
  simp [Instr.slice, Instr.sliceBounds, go_sem, e1]
theorem pm_slC (g k : Nat) (_h : 1 ≤ k) (W : World) : (Instr.slice 62 (.slice (some ⟨g, 0, none⟩) 1 k) (some (.int .i64 1)) none none).run Tryz.prog W = .ok (.slice (if k = 1 then some ⟨g, 0, none⟩ else some ⟨g, 1, none⟩) 0 (k - 1)) W := by
  simp [Instr.slice, Instr.sliceBounds, go_sem]
theorem pm_slD (g k : Nat) (h : 1 ≤ k) (W : World) : (Instr.slice 62 (.slice (some ⟨g, 0, none⟩) 0 k) (some (.int .i64 0)) (some (.int .i64 1)) none).run Tryz.prog W = .ok (.slice (some ⟨g, 0, none⟩) 1 k) W := by
  have e1 : (1 : Int) ≤ (k : Int) := by omega
  have e2 : ¬ k = 0 := by omega
  simp [Instr.slice, Instr.sliceBounds, go_sem, e1, e2]
theorem pm_clear (w : World) (ty : TypeId) (g k : Nat) (cur : Array Value) (hg : w.heap[g]? = some (.cells cur 92 (0, 0))) (h0 : 0 < cur.size) :
    (Builtin.clear_ #[62] ty #[.slice (some ⟨g, 0, none⟩) 1 k]).run Tryz.prog w = .ok (.tuple #[]) (w.setCell ⟨g, 0, none⟩ (.pointer none)) := by
  obtain ⟨i0, hi, hzz⟩ := Option.map_eq_some_iff.1 Tryz.infoPM
  simp only [Prod.mk.injEq] at hzz
  have hc : w.cell? ⟨g, 0, none⟩ = some cur[0] := by rw [blk_cells hg 0]; simp [h0]
  have hf := blk_free hg 0
  have hzc : Builtin.zeroCells #[Value.pointer none] 1 = #[.pointer none] := by kernel_rfl
  unfold Builtin.clear_
  simp [run_underlying Tryz.underlying62, zeroValue, typeInfo, hi, hzz.1, hzc, storeCells, go_sem, hc, hf]
set_option maxRecDepth 100000 in
set_option maxHeartbeats 4000000 in
theorem delete1_calls (_m g k : Nat) (cur : Array Value) (w : World) (hg : w.heap[g]? = some (.cells cur 92 (0, 0))) (hs : cur.size = k) (h1 : 1 ≤ k) (h2 : k ≤ 9223372036854775807) :
    Calls Tryz.prog 47 #[.slice (some ⟨g, 0, none⟩) 1 k, .int .i64 0, .int .i64 1] w fun e w' => e = .returned (.slice (some ⟨g, 0, none⟩) 0 k) ∧ (∃ cur', w'.heap[g]? = some (.cells cur' 92 (0, 0))) ∧ Only (fun j => j = g) w w' := by
  have slA := pm_slA g k h1
  have slB := pm_slB g k h1
  have slC := pm_slC g k h1
  have slD := pm_slD g k h1
  obtain ⟨ad, had⟩ : ∃ ad : Addr, (if k = 1 then some (⟨g, 0, none⟩ : Addr) else some ⟨g, 1, none⟩) = some ad := by split <;> exact ⟨_, rfl⟩
  rw [had] at slC
  clear had
  obtain ⟨i0, hi, hzz⟩ := Option.map_eq_some_iff.1 Tryz.infoPM
  have hap := fun ty A c W => run_append_none (P := Tryz.prog) W 62 ty 92 i0 Tryz.underlying62 hi g 0 0 k (by omega) A c
  have hcl := fun ty => pm_clear w.drew ty g k cur (blk_draw hg) (by omega)
  have HE := Ap.of (And.intro (⟨_, blk_set (blk_draw hg) 0 (.pointer none)⟩ : ∃ cur', (w.drew.setCell ⟨g, 0, none⟩ (.pointer none)).heap[g]? = some (.cells cur' 92 (0, 0))) ((Only.of_below (bel_draw w) (fun j => j = g)).trans (Only.setCell w.drew ⟨g, 0, none⟩ (.pointer none)) (fun i hi => .inl hi)))
  clear hg hi hzz
  go_enter Tryz.func47, Tryz.ntmps47
  go_wp2_with fail
  go_region
  go_wp2_with fail
  go_ret
  exact ⟨rfl, HE.out.1, HE.out.2⟩
end Go.Proofs.YtecfaaeaipjlaaaGreatDoor
