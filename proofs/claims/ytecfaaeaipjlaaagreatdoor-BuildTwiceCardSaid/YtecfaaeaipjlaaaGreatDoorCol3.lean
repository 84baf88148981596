/- Collections whose heap is empty: what is drained; what stands in an index of nothing; the one index is taken off the list. -/
import Derived.Test.YtecfaaeaipjlaaaGreatDoorCol2
namespace Go.Proofs.YtecfaaeaipjlaaaGreatDoor
open Go.RowKit
attribute [local go_sem] max2_int min2_int

theorem set_same {B : Nat} {w : World} {q : Nat} {v : Value} {t : TypeId} (h : w.heap[q]? = some (.cells #[v] t (0, 0))) : Below B w (w.setCell ⟨q, 0, none⟩ v) := by
  refine ⟨rfl, rfl, rfl, by simp [World.setCell], fun k _ => ?_⟩
  by_cases e : k = q
  · subst e
    rw [h]
    simpa using blk_set h 0 v
  · exact Below.heap_setCell w ⟨q, 0, none⟩ v k e
set_option maxRecDepth 100000 in
set_option maxHeartbeats 4000000 in
theorem sdrain0_calls (q : Nat) (tp : Value) (most : Int) (w : World) (hq : w.heap[q]? = some (.cells #[.slice none 0 0] 155 (0, 0))) :
    Calls Tryz.prog 45 #[.pointer (some ⟨q, 0, none⟩), tp, .int .i64 most] w fun e w' => e = .returned (.int .i64 0) ∧ Below w.heap.size w w' := by
  obtain ⟨M, hM, hM0⟩ : ∃ M : Int, (if most < 0 then 0 else most) = M ∧ (if 0 < M then (0 : Int) else M) = 0 := ⟨_, rfl, by split <;> split <;> omega⟩
  have HS := Ap.of (set_same (B := w.heap.size) hq)
  have cq := blk_cells hq
  have fq := blk_free hq
  have lq := blk_lt hq
  clear hq
  go_enter Tryz.func45, Tryz.ntmps45
  go_wp2_with fail
  refine wp_loop_rounds 1 ?_
  rw [rounds_succ]
  go_wp2_with fail
  go_ret
  exact ⟨rfl, HS.out⟩
set_option maxRecDepth 100000 in
set_option maxHeartbeats 4000000 in
theorem slen0_calls (q : Nat) (w : World) (hq : w.heap[q]? = some (.cells #[.slice none 0 0] 155 (0, 0))) :
    Calls Tryz.prog 46 #[.pointer (some ⟨q, 0, none⟩)] w fun e w' => e = .returned (.int .i64 0) ∧ w' = w := by
  have cq := blk_cells hq
  clear hq
  go_enter Tryz.func46, Tryz.ntmps46
  go_wp2_with fail
  go_ret
  exact ⟨rfl, rfl⟩
set_option maxRecDepth 100000 in
set_option maxHeartbeats 4000000 in
theorem drain_calls (c h m t n q : Nat) (R B : Value) (ln : Int) (nm pt : ByteArray) (un fd : Bool) (af most : Int) (w : World) (H : Bld w c h m t n q R B ln nm pt un fd af) :
    Calls Tryz.prog 24 #[.pointer (some ⟨c, 0, none⟩), .string nm, .int .i64 most] w fun e w' => e = .returned (.tuple #[.int .i64 0, .nilIface]) ∧ Below w.heap.size w w' := by
  have HB := Ap.of (built_calls c h m R B nm w H.hc H.one (made_name H.hm))
  have HX := Ap.of (fun W (hW : Below w.heap.size w W) => sdrain0_calls q (.pointer (some ⟨t, 0, none⟩)) most W (H.below hW).hq)
  have HKS := Ap.of (fun W (hW : Below w.heap.size w W) => (⟨hW, blk_cells (H.below hW).hm 3, blk_cells (H.below hW).hm 4⟩ : Below w.heap.size w W ∧ W.cell? ⟨m, 3, none⟩ = some (.pointer (some ⟨t, 0, none⟩)) ∧ W.cell? ⟨m, 4, none⟩ = some (.pointer (some ⟨q, 0, none⟩))))
  have HH := Ap.of H
  clear H
  go_enter Tryz.func24, Tryz.ntmps24
  go_wp2_with fail
  refine HB.out.mono ?_
  rintro e w1 ⟨rfl, hb⟩
  have HL := Ap.of hb
  clear hb
  go_upto_region 4 with fail
  go_cut [] (fun wx => Ap (Below w.heap.size w wx))
  case first =>
    have hk := HKS.out w1 HL.out
    go_region_held3 (fun W => Below w.heap.size w W ∧ W.cell? ⟨m, 3, none⟩ = some (.pointer (some ⟨t, 0, none⟩)) ∧ W.cell? ⟨m, 4, none⟩ = some (.pointer (some ⟨q, 0, none⟩)))
      (first
        | with_reducible assumption
        | (with_reducible (refine HKS.out _ ?_; exact And.left (by assumption)))
        | (with_reducible (refine HKS.out _ ?_; apply Below.drew; exact And.left (by assumption)))
        | (with_reducible (refine HKS.out _ ?_; apply bel_stepB _ _ hb3; exact And.left (by assumption); exact (Below.size (And.left (by assumption)))))
        | (with_reducible (refine HKS.out _ ?_; apply Below.alloc; exact (And.left (by assumption)); exact (Below.size (And.left (by assumption)))))
        | (with_reducible (refine HKS.out _ ?_; apply Below.drew; apply Below.alloc; exact (And.left (by assumption)); exact (Below.size (And.left (by assumption)))))
        | (with_reducible (refine HKS.out _ ?_; exact Below.refl _ _))
        | (with_reducible (refine HKS.out _ ?_; apply Below.drew; exact Below.refl _ _)))
      (first
        | (go_at_call 45; (with_reducible apply Calls.mono); (with_reducible apply HX.out); (exact And.left (by assumption)); rintro en w9 ⟨rfl, hb3⟩))
    all_goals
      go_wp2_with fail
      go_meet
      exact Ap.of (And.left (by assumption))
  case rest =>
    have HB5 := hcut
    clear hcut
    have cm := blk_cells (HH.out.below HB5.out).hm
    have hq := (HH.out.below HB5.out).hq
    have HQ := Ap.of hq
    clear hq
    go_wp2_with fail
    refine (slen0_calls q _ HQ.out).mono ?_
    rintro e w6 ⟨rfl, rfl⟩
    go_wp2_with fail
    go_ret2
    exact ⟨rfl, HB5.out⟩

/-! ### What stands in an index of nothing -/
set_option maxRecDepth 100000 in
set_option maxHeartbeats 4000000 in
theorem leaf0_calls (n : Nat) (L : Value) (w : World) (hn : w.heap[n]? = some (.cells #[L, .slice none 0 0] 150 (0, 0))) :
    Calls Tryz.prog 108 #[.pointer (some ⟨n, 0, none⟩)] w fun e w' => e = .returned (.bool true) ∧ w' = w := by
  have cn := blk_cells hn
  clear hn
  go_enter Tryz.func108, Tryz.ntmps108
  go_wp2_with fail
  go_ret
  exact ⟨rfl, rfl⟩
set_option maxRecDepth 100000 in
set_option maxHeartbeats 4000000 in
theorem first0_calls (t n : Nat) (k : Int) (w : World) (ht : w.heap[t]? = some (.cells #[.pointer (some ⟨n, 0, none⟩), .int .i64 k] 152 (0, 0))) (hn : w.heap[n]? = some (.cells #[.slice none 0 0, .slice none 0 0] 150 (0, 0))) :
    Calls Tryz.prog 77 #[.pointer (some ⟨t, 0, none⟩)] w fun e w' => e = .returned (.tuple #[.agg #[.string ⟨#[]⟩, .int .i64 0], .bool false]) ∧ Below w.heap.size w w' := by
  have hb := bel_alloc w (.cells #[.string ⟨#[]⟩, .int .i64 0] 80)
  have HL := Ap.of (leaf0_calls n _ _ (blk_bel hn hb))
  have ct := blk_cells (blk_bel ht hb)
  have cn := blk_cells (blk_bel hn hb)
  have cn' := blk_cells hn
  have ct' := blk_cells ht
  have ln := blk_lt hn
  have lt := blk_lt ht
  clear ht hn hb
  go_enter Tryz.func77, Tryz.ntmps77
  go_wp2_with fail
  refine wp_loop_rounds 1 ?_
  rw [rounds_succ]
  go_wp2_with fail
  refine HL.out.mono ?_
  rintro e w1 ⟨rfl, rfl⟩
  go_wp2_with fail
  exact bodyPost_ret (v := .tuple #[.agg #[.string ⟨#[]⟩, .int .i64 0], .bool false]) (by simp [results, Tryz.results77, go_sem]) rfl ⟨rfl, bel_alloc _ _⟩
set_option maxRecDepth 100000 in
set_option maxHeartbeats 4000000 in
theorem all0_calls (m t n : Nat) (k : Int) (cs : Array Value) (w : World) (hm : w.heap[m]? = some (.cells cs 98 (0, 0))) (h3 : cs[3]? = some (.pointer (some ⟨t, 0, none⟩))) (ht : w.heap[t]? = some (.cells #[.pointer (some ⟨n, 0, none⟩), .int .i64 k] 152 (0, 0))) (hn : w.heap[n]? = some (.cells #[.slice none 0 0, .slice none 0 0] 150 (0, 0))) :
    Calls Tryz.prog 49 #[.pointer (some ⟨m, 0, none⟩)] w fun e w' => e = .returned (.slice none 0 0) ∧ Below w.heap.size w w' := by
  have HF := Ap.of (first0_calls t n k w ht hn)
  have cm : w.cell? ⟨m, 3, none⟩ = some (.pointer (some ⟨t, 0, none⟩)) := (blk_cells hm 3).trans h3
  clear hm h3 ht hn
  go_enter Tryz.func49, Tryz.ntmps49
  go_wp2_with fail
  refine HF.out.mono ?_
  rintro e w1 ⟨rfl, hb⟩
  have HB := Ap.of hb
  clear hb
  go_wp2_with fail
  refine wp_loop_rounds 1 ?_
  rw [rounds_succ]
  go_wp2_with fail
  go_ret
  exact ⟨rfl, bel_step HB.out (bel_alloc _ _)⟩
set_option maxRecDepth 100000 in
set_option maxHeartbeats 4000000 in
theorem clash0_calls (A : Option Addr) (c : Nat) (w : World) :
    Calls Tryz.prog 48 #[.slice A 0 c] w fun e w' => e = .returned (.tuple #[.agg #[.string ⟨#[]⟩, .int .i64 0], .bool false]) ∧ Below w.heap.size w w' := by
  go_enter Tryz.func48, Tryz.ntmps48
  go_wp2_with fail
  refine wp_loop_rounds 1 ?_
  rw [rounds_succ]
  go_wp2_with fail
  exact bodyPost_ret (v := .tuple #[.agg #[.string ⟨#[]⟩, .int .i64 0], .bool false]) (by simp [results, Tryz.results48, go_sem]) rfl ⟨rfl, bel_alloc _ _⟩
end Go.Proofs.YtecfaaeaipjlaaaGreatDoor
