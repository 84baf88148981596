/- Collections whose heap is empty: what is fed, and drained. -/
import Derived.Test.YtecfaaeaipjlaaaGreatDoorCol1
import Derived.Deep.DeepCutAuto
namespace Go.Proofs.YtecfaaeaipjlaaaGreatDoor
open Go.RowKit
attribute [local go_sem] max2_int min2_int

theorem bel_set {B g i : Nat} {w W : World} {u : Value} (hg : B ≤ g) (h : Below B w W) : Below B w (W.setCell ⟨g, i, none⟩ u) :=
  ⟨h.os, h.tape, h.output, by simpa [World.setCell] using h.size, fun k hk => (Below.heap_setCell W ⟨g, i, none⟩ u k (by show k ≠ g; omega)).trans (h.block k hk)⟩
/-- A slice with one pointer. -/
def One (w : World) (v : Value) (m : Nat) : Prop := ∃ (g k : Nat) (cur : Array Value), v = .slice (some ⟨g, 0, none⟩) 1 k ∧ w.heap[g]? = some (.cells cur 92 (0, 0)) ∧ cur.size = k ∧ 1 ≤ k ∧ k ≤ 9223372036854775807 ∧ cur[0]? = some (.pointer (some ⟨m, 0, none⟩))
theorem One.below {w w' : World} {v : Value} {m : Nat} (h : One w v m) (hb : Below w.heap.size w w') : One w' v m := by
  obtain ⟨g, k, cur, h1, h2, h3⟩ := h
  exact ⟨g, k, cur, h1, blk_bel h2 hb, h3⟩
theorem One.row {w : World} {v : Value} {m : Nat} (h : One w v m) : ∃ g k, v = .slice (some ⟨g, 0, none⟩) 1 k ∧ 1 ≤ k ∧ k ≤ 9223372036854775807 ∧ w.cell? ⟨g, 0, none⟩ = some (.pointer (some ⟨m, 0, none⟩)) ∧ Row KPtr w (fun _ => True) (some ⟨g, 0, none⟩) 1 k [m] := by
  obtain ⟨g, k, cur, rfl, h2, h3, h4, h5, h6⟩ := h
  have hc : w.cell? ⟨g, 0, none⟩ = some (.pointer (some ⟨m, 0, none⟩)) := (blk_cells h2 0).trans h6
  refine ⟨g, k, rfl, h4, h5, hc, .inr ⟨g, 0, rfl, rfl, h4, by unfold maxLen; omega, trivial, blk_lt h2, fun i x hx => ?_⟩⟩
  rcases i with _ | i
  · simp at hx
    subst hx
    exact ⟨_, rfl, fun j u hj => by
      rcases j with _ | j
      · simp at hj; subst hj; simpa using hc
      · simp at hj⟩
  · simp at hx
theorem made_name {w : World} {m t q : Nat} {nm pt : ByteArray} {un fd : Bool} {af : Int} (h : w.heap[m]? = some (.cells #[.string nm, .string pt, .bool un, .pointer (some ⟨t, 0, none⟩), .pointer (some ⟨q, 0, none⟩), .int .i64 af, .bool fd] 98 (0, 0))) : NameAt w m nm := ⟨blk_cells h 0, blk_lt h⟩
set_option maxRecDepth 100000 in
set_option maxHeartbeats 4000000 in
theorem built_calls (c h m : Nat) (R B : Value) (nm : ByteArray) (w : World) (hc : w.heap[c]? = some (.cells #[.pointer (some ⟨h, 0, none⟩), R, B] 64 (0, 0))) (hB : One w B m) (hm : NameAt w m nm) :
    Calls Tryz.prog 41 #[.pointer (some ⟨c, 0, none⟩), .string nm] w fun e w' => e = .returned (.tuple #[.pointer (some ⟨m, 0, none⟩), .nilIface]) ∧ Below w.heap.size w w' := by
  obtain ⟨g, k, rfl, h1, h2, h3, hr⟩ := hB.row
  have HN := Ap.of (named_calls nm (some ⟨g, 0, none⟩) 1 k [m] (fun _ => nm) w hr (fun x hx => by rw [List.mem_singleton] at hx; subst hx; exact hm))
  have cc := blk_cells hc
  have HC := Ap.of hc
  have HB := Ap.of hB
  clear hc hB hm hr h3
  go_enter Tryz.func41, Tryz.ntmps41
  go_wp2_with fail
  refine HN.out.mono ?_
  rintro e w1 ⟨r, rfl, hr, hb⟩
  obtain rfl := named_one hr rfl
  have cc1 := blk_cells (blk_bel HC.out hb)
  obtain ⟨g', k', he, _, _, h3, _⟩ := (HB.out.below hb).row
  simp only [Value.slice.injEq, Option.some.injEq, Addr.mk.injEq] at he
  obtain ⟨⟨rfl, _⟩, _, rfl⟩ := he
  have HL := Ap.of hb
  clear hr hb cc
  go_wp2_with fail
  go_ret2
  exact ⟨rfl, HL.out⟩

/-! ### The empty heap -/
set_option maxRecDepth 100000 in
set_option maxHeartbeats 4000000 in
theorem bse_calls (A : Option Addr) (c : Nat) (x : Int) (fv : Value) (w : World) : Calls Tryz.prog 90 #[.slice A 0 c, .int .i64 x, fv] w fun e w' => e = .returned (.tuple #[.int .i64 0, .bool false]) ∧ w' = w := by
  go_enter Tryz.func90, Tryz.ntmps90
  go_wp2_with fail
  refine wp_loop_rounds 1 ?_
  rw [rounds_succ]
  go_wp2_with fail
  go_ret2
  exact ⟨rfl, rfl⟩
set_option maxRecDepth 100000 in
set_option maxHeartbeats 4000000 in
theorem hfind0_calls (h : Nat) (ln x : Int) (w : World) (hh : w.heap[h]? = some (.cells #[.slice none 0 0, .int .i64 ln] 89 (0, 0))) : Calls Tryz.prog 59 #[.pointer (some ⟨h, 0, none⟩), .int .i64 x] w fun e w' => e = .returned (.tuple #[.int .i64 0, .bool false]) ∧ w' = w := by
  have ch := blk_cells hh
  clear hh
  go_enter Tryz.func59, Tryz.ntmps59
  go_wp2_with fail
  refine (bse_calls none 0 x _ w).mono ?_
  rintro e w1 ⟨rfl, rfl⟩
  go_wp2_with fail
  go_ret2
  exact ⟨rfl, rfl⟩
set_option maxRecDepth 100000 in
set_option maxHeartbeats 4000000 in
theorem hnext0_calls (h : Nat) (ln x : Int) (w : World) (hh : w.heap[h]? = some (.cells #[.slice none 0 0, .int .i64 ln] 89 (0, 0))) : Calls Tryz.prog 42 #[.pointer (some ⟨h, 0, none⟩), .int .i64 x] w fun e w' => e = .returned (.tuple #[.agg #[.int .i64 0, .int .i64 0, .int .i64 0, .string ⟨#[]⟩, .slice none 0 0, .slice none 0 0], .bool false]) ∧ Below w.heap.size w w' := by
  have HF := Ap.of (hfind0_calls h ln x _ (blk_old (o' := .cells #[.int .i64 0, .int .i64 0, .int .i64 0, .string ⟨#[]⟩, .slice none 0 0, .slice none 0 0] 102) hh))
  have ch := blk_cells hh
  have lh := blk_lt hh
  clear hh
  go_enter Tryz.func42, Tryz.ntmps42
  go_wp2_with fail
  refine HF.out.mono ?_
  rintro e w1 ⟨rfl, rfl⟩
  go_wp2_with fail
  exact bodyPost_ret (v := .tuple #[.agg #[.int .i64 0, .int .i64 0, .int .i64 0, .string ⟨#[]⟩, .slice none 0 0, .slice none 0 0], .bool false]) (by simp [results, Tryz.results42, go_sem]) rfl ⟨rfl, bel_alloc _ _⟩
/-- What Feed, Drain and Commit meet: an index that is built, over an empty heap. -/
structure Bld (w : World) (c h m t n q : Nat) (R B : Value) (ln : Int) (nm pt : ByteArray) (un fd : Bool) (af : Int) : Prop where
  hc : w.heap[c]? = some (.cells #[.pointer (some ⟨h, 0, none⟩), R, B] 64 (0, 0))
  hh : w.heap[h]? = some (.cells #[.slice none 0 0, .int .i64 ln] 89 (0, 0))
  one : One w B m
  hm : w.heap[m]? = some (.cells #[.string nm, .string pt, .bool un, .pointer (some ⟨t, 0, none⟩), .pointer (some ⟨q, 0, none⟩), .int .i64 af, .bool fd] 98 (0, 0))
  ht : w.heap[t]? = some (.cells #[.pointer (some ⟨n, 0, none⟩), .int .i64 0] 152 (0, 0))
  hn : w.heap[n]? = some (.cells #[.slice none 0 0, .slice none 0 0] 150 (0, 0))
  hq : w.heap[q]? = some (.cells #[.slice none 0 0] 155 (0, 0))
section
variable {w w' : World} {c h m t n q : Nat} {R B : Value} {ln : Int} {nm pt : ByteArray} {un fd : Bool} {af : Int}
theorem Bld.below (H : Bld w c h m t n q R B ln nm pt un fd af) (hb : Below w.heap.size w w') : Bld w' c h m t n q R B ln nm pt un fd af :=
  ⟨blk_bel H.hc hb, blk_bel H.hh hb, H.one.below hb, blk_bel H.hm hb, blk_bel H.ht hb, blk_bel H.hn hb, blk_bel H.hq hb⟩
theorem blk_neT {w : World} {a b : Nat} {ca cb : Array Value} {ta tb : TypeId} {fa fb : Nat × Nat} (ha : w.heap[a]? = some (.cells ca ta fa)) (hb : w.heap[b]? = some (.cells cb tb fb)) (h : ta ≠ tb) : a ≠ b := by
  intro e
  subst e
  rw [ha] at hb
  injection hb with hb
  injection hb with _ hb
  exact h hb
/-- The flag is set. -/
theorem Bld.fed (H : Bld w c h m t n q R B ln nm pt un fd af) (k : Only (fun k => k = m) w w') (hm : w'.heap[m]? = some (.cells #[.string nm, .string pt, .bool un, .pointer (some ⟨t, 0, none⟩), .pointer (some ⟨q, 0, none⟩), .int .i64 af, .bool true] 98 (0, 0))) : Bld w' c h m t n q R B ln nm pt un true af := by
  refine ⟨blk_only H.hc k (blk_neT H.hc H.hm (by decide)), blk_only H.hh k (blk_neT H.hh H.hm (by decide)), ?_, hm, blk_only H.ht k (blk_neT H.ht H.hm (by decide)), blk_only H.hn k (blk_neT H.hn H.hm (by decide)), blk_only H.hq k (blk_neT H.hq H.hm (by decide))⟩
  obtain ⟨g, k', cur, h1, h2, h3⟩ := H.one
  exact ⟨g, k', cur, h1, blk_only h2 k (blk_neT h2 H.hm (by decide)), h3⟩
end
set_option maxRecDepth 100000 in
set_option maxHeartbeats 4000000 in
theorem feedT_calls (c h m t n q : Nat) (R B : Value) (ln : Int) (nm pt : ByteArray) (un : Bool) (af most : Int) (w : World) (H : Bld w c h m t n q R B ln nm pt un true af) :
    Calls Tryz.prog 22 #[.pointer (some ⟨c, 0, none⟩), .string nm, .int .i64 most] w fun e w' => e = .returned (.tuple #[.bool true, .nilIface]) ∧ Below w.heap.size w w' := by
  have HB := Ap.of (built_calls c h m R B nm w H.hc H.one (made_name H.hm))
  have HH := Ap.of H
  clear H
  go_enter Tryz.func22, Tryz.ntmps22
  go_wp2_with fail
  refine HB.out.mono ?_
  rintro e w1 ⟨rfl, hb⟩
  have cm := blk_cells (HH.out.below hb).hm
  have HL := Ap.of hb
  clear hb
  go_wp2_with fail
  go_ret2
  exact ⟨rfl, HL.out⟩
set_option maxRecDepth 100000 in
set_option maxHeartbeats 4000000 in
theorem feedF_calls (c h m t n q : Nat) (R B : Value) (ln : Int) (nm pt : ByteArray) (un : Bool) (af most : Int) (w : World) (H : Bld w c h m t n q R B ln nm pt un false af) :
    Calls Tryz.prog 22 #[.pointer (some ⟨c, 0, none⟩), .string nm, .int .i64 most] w fun e w' => e = .returned (.tuple #[.bool true, .nilIface]) ∧ Bld w' c h m t n q R B ln nm pt un true af ∧ Only (fun k => k = m) w w' := by
  have HB := Ap.of (built_calls c h m R B nm w H.hc H.one (made_name H.hm))
  have HX := Ap.of (fun W (hW : Below w.heap.size w W) => hnext0_calls h ln af W (H.below hW).hh)
  have HKS := Ap.of (fun W (hW : Below w.heap.size w W) => (⟨hW, blk_cells (H.below hW).hc 0, blk_cells (H.below hW).hm 5⟩ : Below w.heap.size w W ∧ W.cell? ⟨c, 0, none⟩ = some (.pointer (some ⟨h, 0, none⟩)) ∧ W.cell? ⟨m, 5, none⟩ = some (.int .i64 af)))
  have HH := Ap.of H
  obtain ⟨M, hM, hM1⟩ : ∃ M : Int, (if most < 1 then 1 else most) = M ∧ 1 ≤ M := ⟨_, rfl, by split <;> omega⟩
  have hM2 : (0 : Int) < M := by omega
  have HM1 := Ap.of hM1
  clear H hM1
  go_enter Tryz.func22, Tryz.ntmps22
  go_wp2_with fail
  refine HB.out.mono ?_
  rintro e w1 ⟨rfl, hb⟩
  have cm := blk_cells (HH.out.below hb).hm
  have HL := Ap.of hb
  clear hb
  go_wp2_with fail
  refine wp_loop_rounds 1 ?_
  rw [rounds_succ]
  clear hM cm
  go_upto_region 6 with fail
  go_cut [10, 11] (fun _ v11 wx => v11 = .bool false ∧ Ap (Below w.heap.size w wx))
  case first =>
    have hk := HKS.out w1 HL.out
    have HLS := Ap.of HL.out.size
    go_region_held3 (fun W => Below w.heap.size w W ∧ W.cell? ⟨c, 0, none⟩ = some (.pointer (some ⟨h, 0, none⟩)) ∧ W.cell? ⟨m, 5, none⟩ = some (.int .i64 af))
      (first
        | with_reducible assumption
        | (with_reducible (refine HKS.out _ ?_; exact And.left (by assumption)))
        | (with_reducible (refine HKS.out _ ?_; apply Below.drew; exact And.left (by assumption)))
        | (with_reducible (refine HKS.out _ ?_; apply bel_stepB _ _ hb3; exact And.left (by assumption); exact (Below.size (And.left (by assumption)))))
        | (with_reducible (refine HKS.out _ ?_; apply Below.alloc; exact (And.left (by assumption)); exact (Below.size (And.left (by assumption)))))
        | (with_reducible (refine HKS.out _ ?_; apply Below.drew; apply Below.alloc; exact (And.left (by assumption)); exact (Below.size (And.left (by assumption)))))
        | (with_reducible (refine HKS.out _ ?_; exact Below.refl _ _))
        | (with_reducible (refine HKS.out _ ?_; apply Below.drew; exact Below.refl _ _))
        | (with_reducible (refine HKS.out _ ?_; (repeat apply bel_set HLS.out); exact And.left (by assumption))))
      (first
        | (go_at_call 42; (with_reducible apply Calls.mono); (with_reducible apply HX.out); (exact And.left (by assumption)); rintro en w9 ⟨rfl, hb3⟩; (first | (have b8 := blk_bel (blk_draw (blk_new (w := w1) (k := w1.heap.size) (o := .cells #[.int .i64 0, .int .i64 0, .int .i64 0, .string ⟨#[]⟩, .slice none 0 0, .slice none 0 0] 102) rfl)) hb3; have c8 := blk_cells b8; have f8 := blk_free b8; have l8 := blk_lt b8; clear b8) | skip)))
    all_goals
      go_wp2_with fail
      go_meet
      exact ⟨rfl, Ap.of (And.left (by assumption))⟩
  case rest =>
    obtain ⟨rfl, HB6⟩ := hcut
    go_upto_region 13 with fail
    go_cut [14, 15] (fun _ v15 wx => v15 = .bool false ∧ Ap (Below w.heap.size w wx))
    case first =>
      have hk := HKS.out wc HB6.out
      have HLS := Ap.of HB6.out.size
      go_region_held3 (fun W => Below w.heap.size w W ∧ W.cell? ⟨c, 0, none⟩ = some (.pointer (some ⟨h, 0, none⟩)) ∧ W.cell? ⟨m, 5, none⟩ = some (.int .i64 af))
        (first
        | with_reducible assumption
        | (with_reducible (refine HKS.out _ ?_; exact And.left (by assumption)))
        | (with_reducible (refine HKS.out _ ?_; apply Below.drew; exact And.left (by assumption)))
        | (with_reducible (refine HKS.out _ ?_; apply bel_stepB _ _ hb3; exact And.left (by assumption); exact (Below.size (And.left (by assumption)))))
        | (with_reducible (refine HKS.out _ ?_; apply Below.alloc; exact (And.left (by assumption)); exact (Below.size (And.left (by assumption)))))
        | (with_reducible (refine HKS.out _ ?_; apply Below.drew; apply Below.alloc; exact (And.left (by assumption)); exact (Below.size (And.left (by assumption)))))
        | (with_reducible (refine HKS.out _ ?_; exact Below.refl _ _))
        | (with_reducible (refine HKS.out _ ?_; apply Below.drew; exact Below.refl _ _))
        | (with_reducible (refine HKS.out _ ?_; (repeat apply bel_set HLS.out); exact And.left (by assumption))))
        (first
          | (go_at_call 42; (with_reducible apply Calls.mono); (with_reducible apply HX.out); (exact And.left (by assumption)); rintro en w9 ⟨rfl, hb3⟩; (first | (have b8 := blk_bel (blk_draw (blk_new (w := wc) (k := wc.heap.size) (o := .cells #[.int .i64 0, .int .i64 0, .int .i64 0, .string ⟨#[]⟩, .slice none 0 0, .slice none 0 0] 102) rfl)) hb3; have c8 := blk_cells b8; have f8 := blk_free b8; have l8 := blk_lt b8; clear b8) | skip)))
      all_goals
        go_wp2_with fail
        go_meet
        exact ⟨rfl, Ap.of (And.left (by assumption))⟩
    case rest =>
      obtain ⟨rfl, HB7⟩ := hcut
      obtain ⟨w7, rfl⟩ : ∃ w7, w7 = wc := ⟨_, rfl⟩
      have bm := (HH.out.below HB7.out).hm
      have cm := blk_cells bm
      have fm := blk_free bm
      have lm := blk_lt bm
      have hset := Ap.of (show (w7.setCell ⟨m, 6, none⟩ (.bool true)).heap[m]? = some (.cells #[.string nm, .string pt, .bool un, .pointer (some ⟨t, 0, none⟩), .pointer (some ⟨q, 0, none⟩), .int .i64 af, .bool true] 98 (0, 0)) by have := blk_set bm 6 (.bool true); simpa using this)
      have hb7 := Ap.of ((Only.of_below HB7.out (fun k => k = m)).trans (Only.setCell w7 ⟨m, 6, none⟩ (.bool true)) (fun i hi => .inl hi))
      clear bm
      go_wp2_with fail
      go_ret2
      exact ⟨rfl, HH.out.fed hb7.out hset.out, hb7.out⟩
end Go.Proofs.YtecfaaeaipjlaaaGreatDoor
