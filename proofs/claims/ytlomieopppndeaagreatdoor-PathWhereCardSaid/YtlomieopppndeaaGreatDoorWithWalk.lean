/- path.with: a value with another one where a part leads. -/
import Derived.Test.YtlomieopppndeaaGreatDoorSetWalk
namespace Go.Proofs.YtlomieopppndeaaGreatDoor
open Go.RowKit

/-- A row's block, so long, whatever it holds. -/
def GB (g N : Nat) (t : TypeId) (W : World) : Prop := ∃ cur : Array Value, W.heap[g]? = some (.cells cur t (0, 0)) ∧ cur.size = N
theorem GB.bel {g N : Nat} {t : TypeId} {W W' : World} (h : GB g N t W) (hb : Below W.heap.size W W') : GB g N t W' := by obtain ⟨cur, a, b⟩ := h; exact ⟨cur, blk_bel a hb, b⟩
theorem GB.draw {g N : Nat} {t : TypeId} {W : World} (h : GB g N t W) : GB g N t W.drew := h
theorem GB.set5 {g N o : Nat} {t : TypeId} {W : World} (h : GB g N t W) (hf : o + 5 ≤ N) (v0 v1 v2 v3 v4 : Value) : GB g N t (((((W.setCell ⟨g, o, none⟩ v0).setCell ⟨g, o + 1, none⟩ v1).setCell ⟨g, o + 2, none⟩ v2).setCell ⟨g, o + 3, none⟩ v3).setCell ⟨g, o + 4, none⟩ v4) := by
  obtain ⟨cur, a, b⟩ := h
  refine ⟨_, blk_set5o a (by omega) v0 v1 v2 v3 v4, ?_⟩
  rw [List.size_toArray, length_splice _ _ _ (by simp; omega), Array.length_toList, b]
/-- What a cell holds at a time. -/
def curCell (W : World) (g o : Nat) : Value := (W.cell? ⟨g, o, none⟩).getD undef
theorem GB.cell {g N : Nat} {t : TypeId} {W : World} (h : GB g N t W) {o : Nat} (ho : o < N) : W.cell? ⟨g, o, none⟩ = some (curCell W g o) ∧ W.frozen? ⟨g, o, none⟩ = false := by
  obtain ⟨cur, a, b⟩ := h
  refine ⟨?_, blk_free a o⟩
  unfold curCell
  rw [blk_cells a, Array.getElem?_eq_getElem (by omega)]
  rfl

section
variable (D : Nat) (x y : Val) (la : Option Addr) (ln lc : Nat) (fa : Option Addr) (fn fc : Nat) (la2 : Option Addr) (ln2 lc2 : Nat) (fa2 : Option Addr) (fn2 fc2 : Nat) (part : ByteArray) (ok : Nat → Prop) (w : World)
set_option maxRecDepth 100000 in
set_option maxHeartbeats 2000000 in
theorem with5_calls (h5 : x.kind = 5) (hnm : part.size ≤ maxLen) (hfl : x.fields.length ≤ 1000)
    (hx : (KV (D + 2)).R w ok x [.int .i64 x.kind, .int .i64 x.int, .string x.text, .slice la ln lc, .slice fa fn fc]) (hy : (KV (D + 1)).R w ok y [.int .i64 y.kind, .int .i64 y.int, .string y.text, .slice la2 ln2 lc2, .slice fa2 fn2 fc2]) :
    Calls Tryz.prog 64 #[.agg #[.int .i64 x.kind, .int .i64 x.int, .string x.text, .slice la ln lc, .slice fa fn fc], .string part, .agg #[.int .i64 y.kind, .int .i64 y.int, .string y.text, .slice la2 ln2 lc2, .slice fa2 fn2 fc2]] w (RetV (D + 2) w ok (x.with part y)) := by
  have hset := fun W (hW : Below w.heap.size w W) => set_calls D x y h5 la ln lc fa fn fc la2 ln2 lc2 fa2 fn2 fc2 part hnm (fun k => ok k ∧ k < w.heap.size) W hfl ((KV (D + 2)).move (fun k hk => hW.block k hk.2) ((KV (D + 2)).bound hx)) ((KV (D + 1)).move (fun k hk => hW.block k hk.2) ((KV (D + 1)).bound hy))
  have hwi : x.with part y = x.set part y := if_pos h5
  rw [hwi]
  have hset' : ∀ W, Below w.heap.size w W → Calls Tryz.prog 101 #[.agg #[.int .i64 5, .int .i64 x.int, .string x.text, .slice la ln lc, .slice fa fn fc], .string part, .agg #[.int .i64 y.kind, .int .i64 y.int, .string y.text, .slice la2 ln2 lc2, .slice fa2 fn2 fc2]] W (RetV (D + 2) W (fun k => ok k ∧ k < w.heap.size) (x.set part y)) := fun W hW => by
    have := hset W hW
    rw [h5] at this
    exact this
  have HS := Ap.of hset'
  rw [h5]
  clear hset hset' hwi hx hy h5 hnm hfl
  generalize x.set part y = z at *
  generalize x.int = xi at *
  generalize x.text = xt at *
  generalize y.kind = yk at *
  generalize y.int = yi at *
  generalize y.text = yt at *
  go_enter Tryz.func64, Tryz.ntmps64
  go_wp2_with fail
  refine (HS.out _ (bel_step (bel_step (bel_alloc _ _) (bel_alloc _ _)) (bel_alloc _ _))).mono ?_
  rintro e w1 ⟨la3, ln3, lc3, fa3, fn3, fc3, rfl, hr, hb⟩
  have br := blk_bel (blk_new (k := w.heap.size + 1 + 1) (by simp)) hb
  have dr := blk_cells br
  have fr := blk_free br
  have lr := blk_lt br
  have HB := Ap.of (bel_step (bel_step (bel_step (bel_alloc _ _) (bel_alloc _ _)) (bel_alloc _ _)) hb)
  have HR := Ap.of hr
  clear hr hb br
  go_wp2_with fail
  have hs := only5 w1 (w.heap.size + 1 + 1) (.int .i64 z.kind) (.int .i64 z.int) (.string z.text) (.slice la3 ln3 lc3) (.slice fa3 fn3 fc3)
  exact bodyPost_ret (v := .agg #[.int .i64 z.kind, .int .i64 z.int, .string z.text, .slice la3 ln3 lc3, .slice fa3 fn3 fc3]) (by simp [results, Tryz.results64, go_sem, dr]) rfl
    ⟨la3, ln3, lc3, fa3, fn3, fc3, rfl, (KV (D + 2)).mono (fun k hk => hk.elim (fun h => .inl h.1) (fun h => .inr (by simp at h; omega))) (Knd.only HR.out hs (fun k hk he => by
      rcases hk with h | h
      · have := h.2; omega
      · simp at h; omega)), bel_only HB.out HB.out.size hs (fun j he => by omega)⟩

set_option maxRecDepth 100000 in
set_option maxHeartbeats 4000000 in
theorem with4_calls (h4 : x.kind = 4) (k : Nat) (hpk : placeOf x.list.length part = some k) (hp : part.size ≤ 281474976710656) (G : FinG w) (hll : x.list.length ≤ 10)
    (hx : (KV (D + 2)).R w ok x [.int .i64 x.kind, .int .i64 x.int, .string x.text, .slice la ln lc, .slice fa fn fc]) (hy : (KV (D + 1)).R w ok y [.int .i64 y.kind, .int .i64 y.int, .string y.text, .slice la2 ln2 lc2, .slice fa2 fn2 fc2]) :
    Calls Tryz.prog 64 #[.agg #[.int .i64 x.kind, .int .i64 x.int, .string x.text, .slice la ln lc, .slice fa fn fc], .string part, .agg #[.int .i64 y.kind, .int .i64 y.int, .string y.text, .slice la2 ln2 lc2, .slice fa2 fn2 fc2]] w (RetV (D + 2) w ok (x.with part y)) := by
  obtain ⟨_, hxi, hxt, hxl, hxf⟩ := KV_parts hx
  have hkl := (placeOf_some hpk).1
  have hwi : x.with part y = x.setList (x.list.set k y) := by
    unfold Val.with
    rw [if_neg (by omega), hpk]
  rw [hwi]
  have hb3 := bel_step (bel_step (bel_alloc w (.cells #[.int .i64 4, .int .i64 x.int, .string x.text, .slice la ln lc, .slice fa fn fc] 28)) (bel_alloc _ (.cells #[.int .i64 y.kind, .int .i64 y.int, .string y.text, .slice la2 ln2 lc2, .slice fa2 fn2 fc2] 28))) (bel_alloc _ (.cells #[.int .i64 0, .int .i64 0, .string ⟨#[]⟩, .slice none 0 0, .slice none 0 0] 28))
  have hcl := clonev_calls (D + 1) la ln lc (fun k => ok k ∧ k < w.heap.size) _ x.list (by rw [← hxl.length]; omega) (hxl.bound.below hb3)
  have hpl : ∀ A c W, FinG W → Calls Tryz.prog 71 #[.slice A x.list.length c, .string part] W fun e w' => e = .returned (.int .i64 (k : Int)) ∧ Below W.heap.size W w' := fun A c W hG => by
    have := place_calls A x.list.length c hll part hp W hG
    rw [show placeI x.list.length part = (k : Int) from by unfold placeI; rw [hpk]] at this
    exact this
  have HCL := Ap.of hcl
  have HPL := Ap.of hpl
  have HPT := Ap.of (And.intro (KV_parts hx).1 (And.intro hxi (And.intro hxt hxf.bound)))
  have HY := Ap.of hy
  have HB3 := Ap.of hb3
  have GG := Ap.of G
  have H4 := Ap.of h4
  rw [h4]
  clear hcl hpl hx hy hb3 hxi hxt hxl hxf G hwi hpk h4 hp
  generalize hx1 : x.int = xi at *
  generalize hx2 : x.text = xt at *
  generalize hy0 : y.kind = yk at *
  generalize hy1 : y.int = yi at *
  generalize hy2 : y.text = yt at *
  go_enter Tryz.func64, Tryz.ntmps64
  go_wp2_with fail
  refine HCL.out.mono ?_
  rintro e w1 ⟨l, rfl, hO, hb⟩
  have hs0 : (((w.alloc (.cells #[.int .i64 4, .int .i64 xi, .string xt, .slice la ln lc, .slice fa fn fc] 28)).alloc (.cells #[.int .i64 yk, .int .i64 yi, .string yt, .slice la2 ln2 lc2, .slice fa2 fn2 fc2] 28)).alloc (.cells #[.int .i64 0, .int .i64 0, .string ⟨#[]⟩, .slice none 0 0, .slice none 0 0] 28)).heap.size = w.heap.size + 3 := by simp
  have hO1 := hO.mono (ok' := fun k => (ok k ∧ k < w.heap.size) ∨ w.heap.size + 3 ≤ k) (fun k hk => by
    rcases hk with h | h
    · exact .inl h.1
    · exact .inr (by rw [← hs0]; exact h))
  rw [hs0] at hO1
  have bx := blk_bel (blk_old (blk_old (blk_new (w := w) (k := w.heap.size) rfl))) hb
  have by1 := blk_bel (blk_old (blk_new (w := w.alloc (.cells #[.int .i64 4, .int .i64 xi, .string xt, .slice la ln lc, .slice fa fn fc] 28)) (k := w.heap.size + 1) (by simp))) hb
  have br := blk_bel (blk_new (k := w.heap.size + 1 + 1) (by simp)) hb
  have hsz1 : w.heap.size + 3 ≤ w1.heap.size := by have := hb.size; rw [hs0] at this; exact this
  have HB1 := Ap.of (bel_step HB3.out hb)
  obtain ⟨g, cap, cur, css, hl, hBg, hokg, hg, hlc, hcm, hcs, ht, hcl, hc, hr⟩ := hO1.opened (by omega)
  subst hl
  rw [KV_sz] at hcs ht
  have cx := blk_cells bx
  have fx := blk_free bx
  have lx := blk_lt bx
  have hgx : g ≠ w.heap.size := by omega
  have hgy : g ≠ w.heap.size + 1 := by omega
  have hgr : g ≠ w.heap.size + 1 + 1 := by omega
  generalize hfl2 : x.list.length = fl at *
  have hkn : k * 5 + 5 ≤ cur.size := by rw [hcs]; omega
  have hon1 := Only.setCell w1 ⟨w.heap.size, 3, none⟩ (.slice (some ⟨g, 0, none⟩) fl cap)
  have bx1 := blk_set bx 3 (.slice (some ⟨g, 0, none⟩) fl cap)
  have by2 := blk_only by1 hon1 (by simp)
  have br2 := blk_only br hon1 (by simp; omega)
  have hg2 := blk_only hg hon1 (by simpa using hgx)
  have gb0 : GB g cur.size 28 (w1.setCell ⟨w.heap.size, 3, none⟩ (.slice (some ⟨g, 0, none⟩) fl cap)) := ⟨cur, hg2, rfl⟩
  have hG1 : FinG ((w1.setCell ⟨w.heap.size, 3, none⟩ (.slice (some ⟨g, 0, none⟩) fl cap)).drew) := GG.out.below ((bel_only HB1.out HB1.out.size hon1 (fun j he => by simp at he; omega)).drew)
  go_wp2_with fail
  generalize hW1 : (w1.setCell ⟨w.heap.size, 3, none⟩ (.slice (some ⟨g, 0, none⟩) fl cap)) = W1 at *
  have hb1 : Below w.heap.size w W1 := bel_only HB1.out HB1.out.size hon1 (fun j he => by omega)
  have hzW : w.heap.size + 1 < W1.heap.size := blk_lt by2
  have hks : ∀ W, Only (fun j => j = g) W1 W → GB g cur.size 28 W → (Only (fun j => j = g) W1 W ∧ GB g cur.size 28 W ∧ W.cell? ⟨w.heap.size, 3, none⟩ = some (.slice (some ⟨g, 0, none⟩) fl cap) ∧
      W.cell? ⟨w.heap.size + 1, 0, none⟩ = some (.int .i64 yk) ∧ W.cell? ⟨w.heap.size + 1, 1, none⟩ = some (.int .i64 yi) ∧ W.cell? ⟨w.heap.size + 1, 2, none⟩ = some (.string yt) ∧ W.cell? ⟨w.heap.size + 1, 3, none⟩ = some (.slice la2 ln2 lc2) ∧ W.cell? ⟨w.heap.size + 1, 4, none⟩ = some (.slice fa2 fn2 fc2) ∧
      W.cell? ⟨g, k * 5, none⟩ = some (curCell W g (k * 5)) ∧ W.cell? ⟨g, k * 5 + 1, none⟩ = some (curCell W g (k * 5 + 1)) ∧ W.cell? ⟨g, k * 5 + 2, none⟩ = some (curCell W g (k * 5 + 2)) ∧ W.cell? ⟨g, k * 5 + 3, none⟩ = some (curCell W g (k * 5 + 3)) ∧ W.cell? ⟨g, k * 5 + 4, none⟩ = some (curCell W g (k * 5 + 4)) ∧
      W.frozen? ⟨g, k * 5, none⟩ = false ∧ W.frozen? ⟨g, k * 5 + 1, none⟩ = false ∧ W.frozen? ⟨g, k * 5 + 2, none⟩ = false ∧ W.frozen? ⟨g, k * 5 + 3, none⟩ = false ∧ W.frozen? ⟨g, k * 5 + 4, none⟩ = false) := fun W ho hgb => by
    have e1 := blk_cells (blk_only bx1 ho (fun e => hgx e.symm))
    have e2 := blk_cells (blk_only by2 ho (fun e => hgy e.symm))
    exact ⟨ho, hgb, (e1 3).trans (by simp), e2 0, e2 1, e2 2, e2 3, e2 4, (hgb.cell (by omega)).1, (hgb.cell (by omega)).1, (hgb.cell (by omega)).1, (hgb.cell (by omega)).1, (hgb.cell (by omega)).1, (hgb.cell (by omega)).2, (hgb.cell (by omega)).2, (hgb.cell (by omega)).2, (hgb.cell (by omega)).2, (hgb.cell (by omega)).2⟩
  have KS := Ap.of hks
  have HGB := Ap.of gb0
  have HFG := Ap.of hG1
  have hki : (k : Int) < (fl : Int) := by omega
  have hk0 : (0 : Int) ≤ (k : Int) := by omega
  have HD := Ap.of (And.intro hg2 (And.intro bx1 (And.intro by2 (And.intro br2 (And.intro hb1 hkn)))))
  have HOP := Ap.of (And.intro ht (And.intro hcl (And.intro hc (And.intro hr (And.intro hlc (And.intro hcm (And.intro hcs (And.intro hBg hokg))))))))
  have HON := Ap.of hon1
  clear hks gb0 hG1 hg2 bx1 by2 br2 hb1 hkn hs0 hO hO1 bx by1 br hg ht hcl hc hr hlc hcm hcs hon1 cx fx lx hb HB3 HCL hW1
  go_region_held3 (fun W => Only (fun j => j = g) W1 W ∧ GB g cur.size 28 W ∧ W.cell? ⟨w.heap.size, 3, none⟩ = some (.slice (some ⟨g, 0, none⟩) fl cap) ∧
      W.cell? ⟨w.heap.size + 1, 0, none⟩ = some (.int .i64 yk) ∧ W.cell? ⟨w.heap.size + 1, 1, none⟩ = some (.int .i64 yi) ∧ W.cell? ⟨w.heap.size + 1, 2, none⟩ = some (.string yt) ∧ W.cell? ⟨w.heap.size + 1, 3, none⟩ = some (.slice la2 ln2 lc2) ∧ W.cell? ⟨w.heap.size + 1, 4, none⟩ = some (.slice fa2 fn2 fc2) ∧
      W.cell? ⟨g, k * 5, none⟩ = some (curCell W g (k * 5)) ∧ W.cell? ⟨g, k * 5 + 1, none⟩ = some (curCell W g (k * 5 + 1)) ∧ W.cell? ⟨g, k * 5 + 2, none⟩ = some (curCell W g (k * 5 + 2)) ∧ W.cell? ⟨g, k * 5 + 3, none⟩ = some (curCell W g (k * 5 + 3)) ∧ W.cell? ⟨g, k * 5 + 4, none⟩ = some (curCell W g (k * 5 + 4)) ∧
      W.frozen? ⟨g, k * 5, none⟩ = false ∧ W.frozen? ⟨g, k * 5 + 1, none⟩ = false ∧ W.frozen? ⟨g, k * 5 + 2, none⟩ = false ∧ W.frozen? ⟨g, k * 5 + 3, none⟩ = false ∧ W.frozen? ⟨g, k * 5 + 4, none⟩ = false)
    (first
      | assumption
      | with_reducible exact KS.out _ (Only.draw (Only.refl _ _)) (GB.draw HGB.out)
      | with_reducible exact KS.out _ (Only.bel (And.left (by assumption)) hb3) (GB.bel (And.left (And.right (by assumption))) hb3)
      | with_reducible exact KS.out _ (Only.trans (And.left (by assumption)) (only5o _ g (k * 5) _ _ _ _ _) (fun _ h => .inl h)) (GB.set5 (And.left (And.right (by assumption))) HD.out.2.2.2.2.2 _ _ _ _ _))
    (first
      | (go_at_call 71; refine (HPL.out _ _ _ HFG.out).mono ?_; rintro e w3 ⟨rfl, hb3⟩))
  obtain ⟨hg2, bx1, by2, br2, hb1, hkn⟩ := HD.out
  obtain ⟨ht, hcl, hc, hr, hlc, hcm, hcs, hBg, hokg⟩ := HOP.out
  have hg3 := blk_bel (blk_draw hg2) hb3
  have bx3 := blk_bel (blk_draw bx1) hb3
  have br3 := blk_bel (blk_draw br2) hb3
  have hb13 : Below w.heap.size w w3 := bel_stepB hb1.drew hb1.size hb3
  have hg5 := blk_set5o hg3 hkn (.int .i64 yk) (.int .i64 yi) (.string yt) (.slice la2 ln2 lc2) (.slice fa2 fn2 fc2)
  have ho5 := only5o w3 g (k * 5) (.int .i64 yk) (.int .i64 yi) (.string yt) (.slice la2 ln2 lc2) (.slice fa2 fn2 fc2)
  clear hg2 by2 HD HOP
  generalize (((((w3.setCell ⟨g, k * 5, none⟩ (.int .i64 yk)).setCell ⟨g, k * 5 + 1, none⟩ (.int .i64 yi)).setCell ⟨g, k * 5 + 2, none⟩ (.string yt)).setCell ⟨g, k * 5 + 3, none⟩ (.slice la2 ln2 lc2)).setCell ⟨g, k * 5 + 4, none⟩ (.slice fa2 fn2 fc2)) = W5 at *
  have hb5 : Below w.heap.size w W5 := bel_only hb13 hb13.size ho5 (fun j he => by omega)
  have dx5 := blk_cells (blk_only bx3 ho5 (fun e => hgx e.symm))
  have dr5 := blk_cells (blk_only br3 ho5 (fun e => hgr e.symm))
  have fr5 := blk_free (blk_only br3 ho5 (fun e => hgr e.symm))
  have lr5 := blk_lt (blk_only br3 ho5 (fun e => hgr e.symm))
  have lx5 := blk_lt (blk_only bx3 ho5 (fun e => hgx e.symm))
  have hy3 : (KV (D + 1)).R w3 (fun k => ok k ∧ k < w.heap.size) y [.int .i64 yk, .int .i64 yi, .string yt, .slice la2 ln2 lc2, .slice fa2 fn2 fc2] := (KV (D + 1)).move (fun k hk => hb13.block k hk.2) ((KV (D + 1)).bound HY.out)
  have hown : Own (KV (D + 1)) 28 (w.heap.size + 3) W5 (fun k => (ok k ∧ k < w.heap.size) ∨ w.heap.size + 3 ≤ k) (.slice (some ⟨g, 0, none⟩) x.list.length cap) (x.list.set k y) :=
    Own.put (w := w3) (okx := fun k => ok k ∧ k < w.heap.size) (by rw [hfl2]; exact hkl) hBg hokg (by rw [hfl2]; exact hlc) hcm (by rw [KV_sz]; exact hcs) (by rw [KV_sz, hfl2]; exact ht) (by rw [hfl2]; exact hcl) (fun c h => (hc c h).1)
      (fun i z hz => by
        obtain ⟨c, e1, e2⟩ := hr i z hz
        refine ⟨c, e1, Knd.below (w := W1.drew) (Knd.below (w := W1) (Knd.only e2 HON.out (fun k hk e => ?_)) (bel_draw _)) hb3⟩
        have := hk.1
        omega) hy3 (fun k hk => ⟨.inl hk, by have := hk.2; omega⟩) (by rw [KV_sz]; exact hg5) ho5
  obtain ⟨A', c', hva, hrow⟩ := hown.row
  rw [List.length_set, hfl2] at hva hrow
  injection hva with hva1 _ hva2
  subst hva1 hva2
  have HROW := Ap.of hrow
  have HB5 := Ap.of hb5
  clear hrow hb5 hown hy3 hg5 ho5 hg3 bx3 br3 hb13 hb3 hb1 bx1 br2 ht hcl hc hr hlc hcm hcs
  go_wp2_with fail
  have hs := only5 W5 (w.heap.size + 1 + 1) (.int .i64 4) (.int .i64 xi) (.string xt) (.slice (some ⟨g, 0, none⟩) fl cap) (.slice fa fn fc)
  exact bodyPost_ret (v := .agg #[.int .i64 4, .int .i64 xi, .string xt, .slice (some ⟨g, 0, none⟩) fl cap, .slice fa fn fc]) (by simp [results, Tryz.results64, go_sem, dr5]) rfl
    (RetV.mk (show 4 = x.kind from H4.out.symm) hx1.symm hx2.symm ⟨some ⟨g, 0, none⟩, fl, cap, fa, fn, fc, rfl, HPT.out.1, (by show inI64 x.int; rw [hx1]; exact HPT.out.2.1), (by show x.text.size ≤ maxLen; rw [hx2]; exact HPT.out.2.2.1),
      (HROW.out.only hs (fun j hj he => by omega)).mono (fun k hk => hk.elim (fun h => .inl h.1) (fun h => .inr (by omega))), (((HPT.out.2.2.2.move (w' := W5) (fun k hk => HB5.out.block k hk.2)).only hs (fun j hj he => by have := hj.2; omega)).mono (fun _ hk => .inl hk.1))⟩ (bel_only HB5.out HB5.out.size hs (fun j he => by omega)))
/-- path.with, where there is a place. -/
theorem with_calls (hhas : x.has part) (hp : part.size ≤ 281474976710656) (G : FinG w) (hll : x.list.length ≤ 10) (hfl : x.fields.length ≤ 1000)
    (hx : (KV (D + 2)).R w ok x [.int .i64 x.kind, .int .i64 x.int, .string x.text, .slice la ln lc, .slice fa fn fc]) (hy : (KV (D + 1)).R w ok y [.int .i64 y.kind, .int .i64 y.int, .string y.text, .slice la2 ln2 lc2, .slice fa2 fn2 fc2]) :
    Calls Tryz.prog 64 #[.agg #[.int .i64 x.kind, .int .i64 x.int, .string x.text, .slice la ln lc, .slice fa fn fc], .string part, .agg #[.int .i64 y.kind, .int .i64 y.int, .string y.text, .slice la2 ln2 lc2, .slice fa2 fn2 fc2]] w (RetV (D + 2) w ok (x.with part y)) := by
  by_cases h5 : x.kind = 5
  · exact with5_calls D x y la ln lc fa fn fc la2 ln2 lc2 fa2 fn2 fc2 part ok w h5 (by unfold maxLen; omega) hfl hx hy
  · obtain ⟨h4, k, hk, _, _⟩ := has_four hhas h5
    exact with4_calls D x y la ln lc fa fn fc la2 ln2 lc2 fa2 fn2 fc2 part ok w h4 k hk hp G hll hx hy
end
end Go.Proofs.YtlomieopppndeaaGreatDoor
