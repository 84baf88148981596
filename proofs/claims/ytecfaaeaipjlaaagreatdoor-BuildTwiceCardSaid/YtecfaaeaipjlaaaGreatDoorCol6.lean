/- The steps of a build over an empty heap. -/
import Derived.Test.YtecfaaeaipjlaaaGreatDoorCol5
namespace Go.Proofs.YtecfaaeaipjlaaaGreatDoor
open Go.RowKit
attribute [local go_sem] max2_int min2_int

set_option maxRecDepth 100000 in
set_option maxHeartbeats 4000000 in
theorem doneK_calls (nm pt : ByteArray) (un : Bool) (ph : Int) (hp : IntKind.i64.wrap (ph + 1) = ph + 1) (w : World) :
    Calls Tryz.prog 23 #[.agg #[.string nm, .string pt, .bool un, .int .i64 ph], .bool true, .nilIface] w fun e w' => e = .returned (.tuple #[.agg #[.string nm, .string pt, .bool un, .int .i64 (ph + 1)], .nilIface]) ∧ Below w.heap.size w w' := by
  go_enter Tryz.func23, Tryz.ntmps23
  go_wp2_with fail
  exact bodyPost_ret (v := .tuple #[.agg #[.string nm, .string pt, .bool un, .int .i64 (ph + 1)], .nilIface]) (by simp [results, Tryz.results23, go_sem]) rfl ⟨rfl, bel_step (bel_alloc _ _) (bel_alloc _ _)⟩
theorem feed_calls (c h m t n q : Nat) (B : Value) (ln : Int) (nm pt : ByteArray) (un : Bool) : ∀ (fd : Bool) (af most : Int) (w : World) (_ : Bld w c h m t n q (.slice none 0 0) B ln nm pt un fd af),
    Calls Tryz.prog 22 #[.pointer (some ⟨c, 0, none⟩), .string nm, .int .i64 most] w fun e w' => e = .returned (.tuple #[.bool true, .nilIface]) ∧ Bld w' c h m t n q (.slice none 0 0) B ln nm pt un true af ∧ Only (fun k => k = m) w w'
  | false, af, most, w, H => feedF_calls c h m t n q (.slice none 0 0) B ln nm pt un af most w H
  | true, af, most, w, H => (feedT_calls c h m t n q (.slice none 0 0) B ln nm pt un af most w H).mono (fun _ _ hw => ⟨hw.1, H.below hw.2, Only.of_below hw.2 _⟩)
/-- What a step tells. -/
def StpE (nm pt : ByteArray) (un : Bool) (ph : Int) : Ending := .returned (.tuple #[.agg #[.string nm, .string pt, .bool un, .int .i64 ph], .nilIface])
theorem set_new {w W : World} {g i : Nat} {u : Value} (hg : w.heap.size ≤ g) {S : Nat → Prop} (h : Only S w W) : Only S w (W.setCell ⟨g, i, none⟩ u) := h.trans (Only.setCell W ⟨g, i, none⟩ u) (fun j hj => .inr (by rw [hj]; exact hg))
theorem blk_setN {w : World} {b g i : Nat} {u : Value} {o : Obj} (hb : w.heap[b]? = some o) (hn : b ≠ g) : (w.setCell ⟨g, i, none⟩ u).heap[b]? = some o := (Below.heap_setCell w ⟨g, i, none⟩ u b hn).trans hb
section
variable {c h m t n q : Nat} {R B : Value} {ln : Int} {nm pt : ByteArray} {un fd : Bool} {af : Int} {w : World}
theorem Bld.setN (H : Bld w c h m t n q R B ln nm pt un fd af) {g i : Nat} {u : Value} {cb : Array Value} (hg : w.heap[g]? = some (.cells cb 33 (0, 0))) : Bld (w.setCell ⟨g, i, none⟩ u) c h m t n q R B ln nm pt un fd af := by
  refine ⟨blk_setN H.hc (blk_neT H.hc hg (by decide)), blk_setN H.hh (blk_neT H.hh hg (by decide)), ?_, blk_setN H.hm (blk_neT H.hm hg (by decide)), blk_setN H.ht (blk_neT H.ht hg (by decide)), blk_setN H.hn (blk_neT H.hn hg (by decide)), blk_setN H.hq (blk_neT H.hq hg (by decide))⟩
  obtain ⟨g1, k1, cur1, h1, h2, h3⟩ := H.one
  exact ⟨g1, k1, cur1, h1, blk_setN h2 (blk_neT h2 hg (by decide)), h3⟩
theorem Rdy.setN (H : Rdy w c h m ln nm pt un af) {g i : Nat} {u : Value} {cb : Array Value} (hg : w.heap[g]? = some (.cells cb 33 (0, 0))) : Rdy (w.setCell ⟨g, i, none⟩ u) c h m ln nm pt un af := by
  obtain ⟨R, g0, k, t, q, h1, h2, ⟨g1, k1, cur1, e1, e2, e3⟩, h4, h5, h6⟩ := H
  exact ⟨R, g0, k, t, q, blk_setN h1 (blk_neT h1 hg (by decide)), blk_setN h2 (blk_neT h2 hg (by decide)), ⟨g1, k1, cur1, e1, blk_setN e2 (blk_neT e2 hg (by decide)), e3⟩, by simpa [World.setCell] using h4, h5, blk_setN h6 (blk_neT h6 hg (by decide))⟩
theorem Rdy.below {w' : World} (H : Rdy w c h m ln nm pt un af) (hb : Below w.heap.size w w') : Rdy w' c h m ln nm pt un af := by
  obtain ⟨R, g0, k, t, q, h1, h2, h3, h4, h5, h6⟩ := H
  exact ⟨R, g0, k, t, q, blk_bel h1 hb, blk_bel h2 hb, h3.below hb, Nat.lt_of_lt_of_le h4 hb.size, h5, blk_bel h6 hb⟩
end
section
variable {S : Nat → Prop} {w w3 w4 : World} {g : Nat} {nm pt : ByteArray} {un : Bool} {ph : Int}
theorem blk4 {a b : ByteArray} {d : Bool} {e : Int} (nm pt : ByteArray) (un : Bool) (ph : Int) (hg : w4.heap[g]? = some (.cells #[.string a, .string b, .bool d, .int .i64 e] 33 (0, 0))) :
    ((((w4.setCell ⟨g, 0, none⟩ (.string nm)).setCell ⟨g, 1, none⟩ (.string pt)).setCell ⟨g, 2, none⟩ (.bool un)).setCell ⟨g, 3, none⟩ (.int .i64 ph)).heap[g]? = some (.cells #[.string nm, .string pt, .bool un, .int .i64 ph] 33 (0, 0)) := by
  have := blk_set (blk_set (blk_set (blk_set hg 0 (.string nm)) 1 (.string pt)) 2 (.bool un)) 3 (.int .i64 ph)
  simpa using this
/-- The result's cell is filled. -/
theorem only4 (O : Only S w w3) (hb : Below w3.heap.size w3 w4) (hg : w.heap.size ≤ g) : Only S w ((((w4.setCell ⟨g, 0, none⟩ (.string nm)).setCell ⟨g, 1, none⟩ (.string pt)).setCell ⟨g, 2, none⟩ (.bool un)).setCell ⟨g, 3, none⟩ (.int .i64 ph)) :=
  set_new hg (set_new hg (set_new hg (set_new hg (O.trans (Only.of_below hb (fun _ => False)) (fun _ h => h.elim)))))
theorem bld4 {c h m t n q : Nat} {R B : Value} {ln : Int} {na pa : ByteArray} {ua fd : Bool} {af : Int} (H : Bld w4 c h m t n q R B ln na pa ua fd af) {cb : Array Value} (hg : w4.heap[g]? = some (.cells cb 33 (0, 0))) :
    Bld ((((w4.setCell ⟨g, 0, none⟩ (.string nm)).setCell ⟨g, 1, none⟩ (.string pt)).setCell ⟨g, 2, none⟩ (.bool un)).setCell ⟨g, 3, none⟩ (.int .i64 ph)) c h m t n q R B ln na pa ua fd af :=
  (((H.setN hg).setN (blk_set hg _ _)).setN (blk_set (blk_set hg _ _) _ _)).setN (blk_set (blk_set (blk_set hg _ _) _ _) _ _)
theorem rdy4 {c h m : Nat} {ln : Int} {na pa : ByteArray} {ua : Bool} {af : Int} (H : Rdy w4 c h m ln na pa ua af) {cb : Array Value} (hg : w4.heap[g]? = some (.cells cb 33 (0, 0))) :
    Rdy ((((w4.setCell ⟨g, 0, none⟩ (.string nm)).setCell ⟨g, 1, none⟩ (.string pt)).setCell ⟨g, 2, none⟩ (.bool un)).setCell ⟨g, 3, none⟩ (.int .i64 ph)) c h m ln na pa ua af :=
  (((H.setN hg).setN (blk_set hg _ _)).setN (blk_set (blk_set hg _ _) _ _)).setN (blk_set (blk_set (blk_set hg _ _) _ _) _ _)
end
section
variable (c h m t n q : Nat) (B : Value) (ln : Int) (nm pt : ByteArray) (un fd : Bool) (af most : Int) (w : World)
set_option maxRecDepth 100000 in
set_option maxHeartbeats 4000000 in
theorem step0_calls (H : Bld w c h m t n q (.slice none 0 0) B ln nm pt un fd af) :
    Calls Tryz.prog 11 #[.pointer (some ⟨c, 0, none⟩), .agg #[.string nm, .string pt, .bool un, .int .i64 0], .int .i64 most] w fun e w' => e = StpE nm pt un 1 ∧ Bld w' c h m t n q (.slice none 0 0) B ln nm pt un true af ∧ Only (fun k => k = m) w w' := by
  obtain ⟨M1, hM1⟩ : ∃ M : Int, (if most < 1 then 1 else most) = M := ⟨_, rfl⟩
  obtain ⟨M2, hM2⟩ : ∃ M : Int, (if 100 < M1 then 100 else M1) = M := ⟨_, rfl⟩
  have hb2 := bel_step (bel_alloc w (.cells #[.string nm, .string pt, .bool un, .int .i64 0] 33)) (bel_alloc _ (.cells #[.string ⟨#[]⟩, .string ⟨#[]⟩, .bool false, .int .i64 0] 33))
  have HF := Ap.of (feed_calls c h m t n q B ln nm pt un fd af M2 _ (H.below hb2))
  have HB2 := Ap.of hb2
  have HH := Ap.of H
  have B1 := Ap.of (blk_old (o' := .cells #[.string ⟨#[]⟩, .string ⟨#[]⟩, .bool false, .int .i64 0] 33) (blk_new (w := w) (k := w.heap.size) (o := .cells #[.string nm, .string pt, .bool un, .int .i64 0] 33) rfl))
  have B2 := Ap.of (blk_new (w := w.alloc (.cells #[.string nm, .string pt, .bool un, .int .i64 0] 33)) (k := w.heap.size + 1) (o := .cells #[.string ⟨#[]⟩, .string ⟨#[]⟩, .bool false, .int .i64 0] 33) (by simp))
  have HM2 := Ap.of (H.below hb2).hm
  clear hb2 H
  unfold StpE
  go_enter Tryz.func11, Tryz.ntmps11
  go_wp2_with fail
  refine HF.out.mono ?_
  rintro e w3 ⟨rfl, hH3, hO3⟩
  have H3 := Ap.of hH3
  have b1 := blk_only B1.out hO3 (blk_neT B1.out HM2.out (by decide))
  have b2 := blk_only B2.out hO3 (blk_neT B2.out HM2.out (by decide))
  have O3 := Ap.of (show Only (fun k => k = m) w w3 from (Only.of_below HB2.out (fun k => k = m)).trans hO3 (fun i hi => .inl hi))
  have c1 := blk_cells b1
  have c2 := blk_cells b2
  have f2 := blk_free b2
  have l2 := blk_lt b2
  have BB2 := Ap.of b2
  clear b1 b2 hH3 hO3
  go_wp2_with fail
  refine (doneK_calls nm pt un 0 (by decide) w3).mono ?_
  rintro e w4 ⟨rfl, hb⟩
  have hb4 := blk_bel BB2.out hb
  have H4 := Ap.of (H3.out.below hb)
  have O4 := Ap.of (And.intro (bld4 (nm := nm) (pt := pt) (un := un) (ph := 1) H4.out hb4) (only4 (nm := nm) (pt := pt) (un := un) (ph := 1) O3.out hb (Nat.le_succ w.heap.size)))
  have c4 := blk_cells hb4
  have f4 := blk_free hb4
  have l4 := blk_lt hb4
  have D4 := Ap.of (blk_cells (blk4 nm pt un 1 hb4))
  clear c1 c2 f2 l2 hb hb4
  go_wp2_with fail
  exact bodyPost_ret (v := .tuple #[.agg #[.string nm, .string pt, .bool un, .int .i64 1], .nilIface]) (by simp [results, Tryz.results11, go_sem, D4.out]) rfl ⟨rfl, O4.out⟩
set_option maxRecDepth 100000 in
set_option maxHeartbeats 4000000 in
theorem step1_calls (H : Bld w c h m t n q (.slice none 0 0) B ln nm pt un fd af) :
    Calls Tryz.prog 11 #[.pointer (some ⟨c, 0, none⟩), .agg #[.string nm, .string pt, .bool un, .int .i64 1], .int .i64 most] w fun e w' => e = StpE nm pt un 2 ∧ Bld w' c h m t n q (.slice none 0 0) B ln nm pt un fd af ∧ Only (fun k => k = m) w w' := by
  obtain ⟨M1, hM1⟩ : ∃ M : Int, (if most < 1 then 1 else most) = M := ⟨_, rfl⟩
  obtain ⟨M2, hM2⟩ : ∃ M : Int, (if 100 < M1 then 100 else M1) = M := ⟨_, rfl⟩
  have hb2 := bel_step (bel_alloc w (.cells #[.string nm, .string pt, .bool un, .int .i64 1] 33)) (bel_alloc _ (.cells #[.string ⟨#[]⟩, .string ⟨#[]⟩, .bool false, .int .i64 0] 33))
  have HF := Ap.of (drain_calls c h m t n q (.slice none 0 0) B ln nm pt un fd af M2 _ (H.below hb2))
  have HB2 := Ap.of hb2
  have HH := Ap.of (H.below hb2)
  have B1 := Ap.of (blk_old (o' := .cells #[.string ⟨#[]⟩, .string ⟨#[]⟩, .bool false, .int .i64 0] 33) (blk_new (w := w) (k := w.heap.size) (o := .cells #[.string nm, .string pt, .bool un, .int .i64 1] 33) rfl))
  have B2 := Ap.of (blk_new (w := w.alloc (.cells #[.string nm, .string pt, .bool un, .int .i64 1] 33)) (k := w.heap.size + 1) (o := .cells #[.string ⟨#[]⟩, .string ⟨#[]⟩, .bool false, .int .i64 0] 33) (by simp))
  clear hb2 H
  unfold StpE
  go_enter Tryz.func11, Tryz.ntmps11
  go_wp2_with fail
  refine HF.out.mono ?_
  rintro e w3 ⟨rfl, hH3⟩
  have H3 := Ap.of (HH.out.below hH3)
  have b1 := blk_bel B1.out hH3
  have b2 := blk_bel B2.out hH3
  have O3 := Ap.of (show Only (fun k => k = m) w w3 from Only.of_below (bel_step HB2.out hH3) (fun k => k = m))
  have c1 := blk_cells b1
  have c2 := blk_cells b2
  have f2 := blk_free b2
  have l2 := blk_lt b2
  have BB2 := Ap.of b2
  clear b1 b2 hH3
  go_wp2_with fail
  refine (doneK_calls nm pt un 1 (by decide) w3).mono ?_
  rintro e w4 ⟨rfl, hb⟩
  have hb4 := blk_bel BB2.out hb
  have H4 := Ap.of (H3.out.below hb)
  have O4 := Ap.of (And.intro (bld4 (nm := nm) (pt := pt) (un := un) (ph := 2) H4.out hb4) (only4 (nm := nm) (pt := pt) (un := un) (ph := 2) O3.out hb (Nat.le_succ w.heap.size)))
  have c4 := blk_cells hb4
  have f4 := blk_free hb4
  have l4 := blk_lt hb4
  have D4 := Ap.of (blk_cells (blk4 nm pt un 2 hb4))
  clear c1 c2 f2 l2 hb hb4
  go_wp2_with fail
  exact bodyPost_ret (v := .tuple #[.agg #[.string nm, .string pt, .bool un, .int .i64 2], .nilIface]) (by simp [results, Tryz.results11, go_sem, D4.out]) rfl ⟨rfl, O4.out⟩
set_option maxRecDepth 100000 in
set_option maxHeartbeats 4000000 in
theorem step2_calls (H : Bld w c h m t n q (.slice none 0 0) B ln nm pt un fd af) :
    Calls Tryz.prog 11 #[.pointer (some ⟨c, 0, none⟩), .agg #[.string nm, .string pt, .bool un, .int .i64 2], .int .i64 most] w fun e w' => e = StpE nm pt un 3 ∧ Bld w' c h m t n q (.slice none 0 0) B ln nm pt un fd af ∧ Only (fun k => k = m) w w' := by
  obtain ⟨M1, hM1⟩ : ∃ M : Int, (if most < 1 then 1 else most) = M := ⟨_, rfl⟩
  obtain ⟨M2, hM2⟩ : ∃ M : Int, (if 100 < M1 then 100 else M1) = M := ⟨_, rfl⟩
  have hb2 := bel_step (bel_alloc w (.cells #[.string nm, .string pt, .bool un, .int .i64 2] 33)) (bel_alloc _ (.cells #[.string ⟨#[]⟩, .string ⟨#[]⟩, .bool false, .int .i64 0] 33))
  have HF := Ap.of (drain_calls c h m t n q (.slice none 0 0) B ln nm pt un fd af 9223372036854775807 _ (H.below hb2))
  have HB2 := Ap.of hb2
  have HH := Ap.of (H.below hb2)
  have B1 := Ap.of (blk_old (o' := .cells #[.string ⟨#[]⟩, .string ⟨#[]⟩, .bool false, .int .i64 0] 33) (blk_new (w := w) (k := w.heap.size) (o := .cells #[.string nm, .string pt, .bool un, .int .i64 2] 33) rfl))
  have B2 := Ap.of (blk_new (w := w.alloc (.cells #[.string nm, .string pt, .bool un, .int .i64 2] 33)) (k := w.heap.size + 1) (o := .cells #[.string ⟨#[]⟩, .string ⟨#[]⟩, .bool false, .int .i64 0] 33) (by simp))
  clear hb2 H
  unfold StpE
  go_enter Tryz.func11, Tryz.ntmps11
  go_wp2_with fail
  refine HF.out.mono ?_
  rintro e w3 ⟨rfl, hH3⟩
  have H3 := Ap.of (HH.out.below hH3)
  have b1 := blk_bel B1.out hH3
  have b2 := blk_bel B2.out hH3
  have O3 := Ap.of (show Only (fun k => k = m) w w3 from Only.of_below (bel_step HB2.out hH3) (fun k => k = m))
  have c1 := blk_cells b1
  have c2 := blk_cells b2
  have f2 := blk_free b2
  have l2 := blk_lt b2
  have BB2 := Ap.of b2
  clear b1 b2 hH3
  go_wp2_with fail
  refine (doneK_calls nm pt un 2 (by decide) w3).mono ?_
  rintro e w4 ⟨rfl, hb⟩
  have hb4 := blk_bel BB2.out hb
  have H4 := Ap.of (H3.out.below hb)
  have O4 := Ap.of (And.intro (bld4 (nm := nm) (pt := pt) (un := un) (ph := 3) H4.out hb4) (only4 (nm := nm) (pt := pt) (un := un) (ph := 3) O3.out hb (Nat.le_succ w.heap.size)))
  have c4 := blk_cells hb4
  have f4 := blk_free hb4
  have l4 := blk_lt hb4
  have D4 := Ap.of (blk_cells (blk4 nm pt un 3 hb4))
  clear c1 c2 f2 l2 hb hb4
  go_wp2_with fail
  exact bodyPost_ret (v := .tuple #[.agg #[.string nm, .string pt, .bool un, .int .i64 3], .nilIface]) (by simp [results, Tryz.results11, go_sem, D4.out]) rfl ⟨rfl, O4.out⟩
set_option maxRecDepth 100000 in
set_option maxHeartbeats 4000000 in
theorem step3_calls (H : Bld w c h m t n q (.slice none 0 0) B ln nm pt un true af) :
    Calls Tryz.prog 11 #[.pointer (some ⟨c, 0, none⟩), .agg #[.string nm, .string pt, .bool un, .int .i64 3], .int .i64 most] w fun e w' => e = StpE nm pt un 4 ∧ Rdy w' c h m ln nm pt un af ∧ Only (fun j => j = c ∨ B.ownBlock = some j) w w' := by
  obtain ⟨M1, hM1⟩ : ∃ M : Int, (if most < 1 then 1 else most) = M := ⟨_, rfl⟩
  obtain ⟨M2, hM2⟩ : ∃ M : Int, (if 100 < M1 then 100 else M1) = M := ⟨_, rfl⟩
  have hb2 := bel_step (bel_alloc w (.cells #[.string nm, .string pt, .bool un, .int .i64 3] 33)) (bel_alloc _ (.cells #[.string ⟨#[]⟩, .string ⟨#[]⟩, .bool false, .int .i64 0] 33))
  have HF := Ap.of (drain_calls c h m t n q (.slice none 0 0) B ln nm pt un true af 9223372036854775807 _ (H.below hb2))
  have HB2 := Ap.of hb2
  have HH := Ap.of (H.below hb2)
  have B1 := Ap.of (blk_old (o' := .cells #[.string ⟨#[]⟩, .string ⟨#[]⟩, .bool false, .int .i64 0] 33) (blk_new (w := w) (k := w.heap.size) (o := .cells #[.string nm, .string pt, .bool un, .int .i64 3] 33) rfl))
  have B2 := Ap.of (blk_new (w := w.alloc (.cells #[.string nm, .string pt, .bool un, .int .i64 3] 33)) (k := w.heap.size + 1) (o := .cells #[.string ⟨#[]⟩, .string ⟨#[]⟩, .bool false, .int .i64 0] 33) (by simp))
  clear hb2 H
  unfold StpE
  go_enter Tryz.func11, Tryz.ntmps11
  go_wp2_with fail
  refine HF.out.mono ?_
  rintro e w3 ⟨rfl, hH3⟩
  have H3 := Ap.of (HH.out.below hH3)
  have b1 := blk_bel B1.out hH3
  have b2 := blk_bel B2.out hH3
  have O3 := Ap.of (show Only (fun j => j = c ∨ B.ownBlock = some j) w w3 from Only.of_below (bel_step HB2.out hH3) (fun j => j = c ∨ B.ownBlock = some j))
  have c1 := blk_cells b1
  have BB1 := Ap.of b1
  have BB2 := Ap.of b2
  have HC := Ap.of (commit_calls c h m t n q B ln nm pt un af w3 H3.out)
  clear b1 b2 hH3
  go_wp2_with fail
  refine HC.out.mono ?_
  rintro e w5 ⟨rfl, hR5, hO5⟩
  have ne5 : ∀ {b : Nat} {cb : Array Value}, w3.heap[b]? = some (.cells cb 33 (0, 0)) → w5.heap[b]? = some (.cells cb 33 (0, 0)) := fun hb => blk_only hb hO5 (fun e => e.elim (fun e => blk_neT hb H3.out.hc (by decide) e) (fun e => H3.out.one.ne hb (by decide) e))
  have R5 := Ap.of hR5
  have O5 := Ap.of (show Only (fun j => j = c ∨ B.ownBlock = some j) w w5 from O3.out.trans hO5 (fun i hi => .inl hi))
  have b1 := ne5 BB1.out
  have b2 := ne5 BB2.out
  have d1 := blk_cells b1
  have d2 := blk_cells b2
  have f2 := blk_free b2
  have l2 := blk_lt b2
  have BB5 := Ap.of b2
  clear b1 b2 hR5 hO5 ne5 c1
  go_wp2_with fail
  refine (doneK_calls nm pt un 3 (by decide) w5).mono ?_
  rintro e w4 ⟨rfl, hb⟩
  have hb4 := blk_bel BB5.out hb
  have H4 := Ap.of (R5.out.below hb)
  have O4 := Ap.of (And.intro (rdy4 (nm := nm) (pt := pt) (un := un) (ph := 4) H4.out hb4) (only4 (nm := nm) (pt := pt) (un := un) (ph := 4) O5.out hb (Nat.le_succ w.heap.size)))
  have c4 := blk_cells hb4
  have f4 := blk_free hb4
  have l4 := blk_lt hb4
  have D4 := Ap.of (blk_cells (blk4 nm pt un 4 hb4))
  clear d1 d2 f2 l2 hb hb4
  go_wp2_with fail
  exact bodyPost_ret (v := .tuple #[.agg #[.string nm, .string pt, .bool un, .int .i64 4], .nilIface]) (by simp [results, Tryz.results11, go_sem, D4.out]) rfl ⟨rfl, O4.out⟩
end
end Go.Proofs.YtecfaaeaipjlaaaGreatDoor
