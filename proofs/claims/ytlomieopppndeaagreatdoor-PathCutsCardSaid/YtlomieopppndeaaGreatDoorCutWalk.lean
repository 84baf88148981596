/- path.Cut: a value without the field at the end of a path. -/
import Derived.Test.YtlomieopppndeaaGreatDoorDel
import Derived.Test.YtlomieopppndeaaGreatDoorPutWalk
namespace Go.Proofs.YtlomieopppndeaaGreatDoor
open Go.RowKit

def CutS (m : Nat) : Prop := ∀ (E : Nat) (x : Val) (l : List ByteArray) (N : Nat) (la : Option Addr) (ln lc : Nat) (fa : Option Addr) (fn fc : Nat) (A : Option Addr) (n c : Nat) (ok : Nat → Prop) (w : World),
  l.length = m → Few N x → N ≤ 1000 → FinG w → Row KStr w ok A n c l → (KV (E + m + 1)).R w ok x [.int .i64 x.kind, .int .i64 x.int, .string x.text, .slice la ln lc, .slice fa fn fc] →
  Calls Tryz.prog 39 #[.agg #[.int .i64 x.kind, .int .i64 x.int, .string x.text, .slice la ln lc, .slice fa fn fc], .slice A n c] w (CutP (E + m + 1) w ok x (x.cut l))

set_option maxRecDepth 100000 in
set_option maxHeartbeats 4000000 in
theorem cut_nil : CutS 0 := by
  intro E x l N la ln lc fa fn fc A n c ok w hl _ _ _ hrow hx
  obtain rfl : l = [] := List.length_eq_zero_iff.1 hl
  obtain rfl : n = 0 := by rw [← hrow.length]; rfl
  have HX := Ap.of ((KV (E + 1)).bound hx)
  clear hx hrow hl
  have hcut : x.cut [] = none := rfl
  rw [hcut]
  clear hcut
  generalize hx0 : x.kind = xk at *
  generalize hx1 : x.int = xi at *
  generalize hx2 : x.text = xt at *
  go_enter Tryz.func39, Tryz.ntmps39
  go_wp2_with fail
  exact bodyPost_ret (v := .tuple #[.agg #[.int .i64 xk, .int .i64 xi, .string xt, .slice la ln lc, .slice fa fn fc], .bool false]) (by simp [results, Tryz.results39, go_sem]) rfl
    (CutP.mk hx0.symm hx1.symm hx2.symm rfl rfl (by rw [hx0, hx1, hx2]; exact (KV (E + 1)).mono (fun k hk => .inl hk.1) (Knd.below (Knd.below HX.out (bel_alloc _ _)) (bel_alloc _ _))) (bel_step (bel_alloc _ _) (bel_alloc _ _)))

set_option maxRecDepth 100000 in
set_option maxHeartbeats 4000000 in
theorem cut_one : CutS 1 := by
  intro E x l N la ln lc fa fn fc A n c ok w hl hF hN G hrow hx
  obtain ⟨p, rfl⟩ : ∃ p, l = [p] := List.length_eq_one_iff.1 hl
  have hrow8 := Row.bound hrow
  obtain ⟨g, off, A', c', rfl, hn, hpsz, hlg, hpc, _, _⟩ := row_tail hrow8
  obtain rfl : n = 1 := by simpa using hn
  have hb2 := bel_step (bel_alloc w (.cells #[.int .i64 x.kind, .int .i64 x.int, .string x.text, .slice la ln lc, .slice fa fn fc] 28)) (bel_alloc _ (.cells #[.int .i64 0, .int .i64 0, .string ⟨#[]⟩, .slice none 0 0, .slice none 0 0] 28))
  have bx := blk_old (o' := .cells #[.int .i64 0, .int .i64 0, .string ⟨#[]⟩, .slice none 0 0, .slice none 0 0] 28) (blk_new (w := w) (k := w.heap.size) (o := .cells #[.int .i64 x.kind, .int .i64 x.int, .string x.text, .slice la ln lc, .slice fa fn fc] 28) rfl)
  have br := blk_new (w := w.alloc (.cells #[.int .i64 x.kind, .int .i64 x.int, .string x.text, .slice la ln lc, .slice fa fn fc] 28)) (k := w.heap.size + 1) (o := .cells #[.int .i64 0, .int .i64 0, .string ⟨#[]⟩, .slice none 0 0, .slice none 0 0] 28) (by simp)
  have hx8 := Knd.below ((KV (E + 2)).bound hx) hb2
  have hpc2 := (hb2.cell (p := ⟨g, off, none⟩) hlg).trans hpc
  have HFL := Ap.of (Nat.le_trans hF.flen hN)
  show Calls _ _ _ _ (CutP (E + 2) w ok x (x.del p))
  clear hrow hrow8 hx hn hl hpc hF hN G
  generalize hres : x.del p = res at *
  have HRES := Ap.of hres
  clear hres
  generalize hx0 : x.kind = xk at *
  generalize hx1 : x.int = xi at *
  generalize hx2 : x.text = xt at *
  have HSZ := Ap.of (show ((w.alloc (.cells #[.int .i64 xk, .int .i64 xi, .string xt, .slice la ln lc, .slice fa fn fc] 28)).alloc (.cells #[.int .i64 0, .int .i64 0, .string ⟨#[]⟩, .slice none 0 0, .slice none 0 0] 28)).heap.size = w.heap.size + 2 by simp)
  have HBX := Ap.of bx
  have HBR := Ap.of br
  have HX8 := Ap.of hx8
  have HPC := Ap.of hpc2
  have HB2 := Ap.of hb2
  have HXE := Ap.of (And.intro hx0 (And.intro hx1 hx2))
  clear bx br hx8 hpc2 hb2
  go_enter Tryz.func39, Tryz.ntmps39
  go_wp2_with fail
  generalize (w.alloc (.cells #[.int .i64 xk, .int .i64 xi, .string xt, .slice la ln lc, .slice fa fn fc] 28)).alloc (.cells #[.int .i64 0, .int .i64 0, .string ⟨#[]⟩, .slice none 0 0, .slice none 0 0] 28) = W0 at *
  have hks : ∀ W, Only (fun j => j = w.heap.size + 1) W0 W → GB (w.heap.size + 1) 5 28 W → (Only (fun j => j = w.heap.size + 1) W0 W ∧ GB (w.heap.size + 1) 5 28 W ∧ W.cell? ⟨g, off, none⟩ = some (.string p) ∧ W.cell? ⟨w.heap.size, 0, none⟩ = some (.int .i64 xk) ∧ W.cell? ⟨w.heap.size, 1, none⟩ = some (.int .i64 xi) ∧ W.cell? ⟨w.heap.size, 2, none⟩ = some (.string xt) ∧ W.cell? ⟨w.heap.size, 3, none⟩ = some (.slice la ln lc) ∧ W.cell? ⟨w.heap.size, 4, none⟩ = some (.slice fa fn fc) ∧ W.cell? ⟨w.heap.size + 1, 0, none⟩ = some (curCell W (w.heap.size + 1) 0) ∧ W.cell? ⟨w.heap.size + 1, 1, none⟩ = some (curCell W (w.heap.size + 1) 1) ∧ W.cell? ⟨w.heap.size + 1, 2, none⟩ = some (curCell W (w.heap.size + 1) 2) ∧ W.cell? ⟨w.heap.size + 1, 3, none⟩ = some (curCell W (w.heap.size + 1) 3) ∧ W.cell? ⟨w.heap.size + 1, 4, none⟩ = some (curCell W (w.heap.size + 1) 4) ∧ W.frozen? ⟨w.heap.size + 1, 0, none⟩ = false ∧ W.frozen? ⟨w.heap.size + 1, 1, none⟩ = false ∧ W.frozen? ⟨w.heap.size + 1, 2, none⟩ = false ∧ W.frozen? ⟨w.heap.size + 1, 3, none⟩ = false ∧ W.frozen? ⟨w.heap.size + 1, 4, none⟩ = false) := fun W ho hgb => by
    have hz := HSZ.out
    have e1 := blk_cells (blk_only HBX.out ho (fun e => by omega))
    exact ⟨ho, hgb, (only_cell ho (q := ⟨g, off, none⟩) (World.block_lt_of_cell? _ _ HPC.out) (fun e => by have e : g = w.heap.size + 1 := e; omega)).trans HPC.out, e1 0, e1 1, e1 2, e1 3, e1 4, (hgb.cell (by omega)).1, (hgb.cell (by omega)).1, (hgb.cell (by omega)).1, (hgb.cell (by omega)).1, (hgb.cell (by omega)).1, (hgb.cell (by omega)).2, (hgb.cell (by omega)).2, (hgb.cell (by omega)).2, (hgb.cell (by omega)).2, (hgb.cell (by omega)).2⟩
  have KS11 := Ap.of hks
  have HGB := Ap.of (show GB (w.heap.size + 1) 5 28 W0 from ⟨_, HBR.out, rfl⟩)
  have HWO := Ap.of (show ∀ W, Only (fun j => j = w.heap.size + 1) W0 W → Calls Tryz.prog 65 #[.agg #[.int .i64 xk, .int .i64 xi, .string xt, .slice la ln lc, .slice fa fn fc], .string p] W (CutP (E + 2) W (fun k => ok k ∧ k < w.heap.size) x res) from fun W ho => by
    have := del_calls E x la ln lc fa fn fc p (fun k => ok k ∧ k < w.heap.size) W HFL.out (by rw [HXE.out.1, HXE.out.2.1, HXE.out.2.2]; exact Knd.only HX8.out ho (fun k hk e => by have := hk.2; omega))
    rw [HRES.out, HXE.out.1, HXE.out.2.1, HXE.out.2.2] at this
    exact this)
  clear hks
  go_wp2_with fail
  go_region_held3 (fun W => Only (fun j => j = w.heap.size + 1) W0 W ∧ GB (w.heap.size + 1) 5 28 W ∧ W.cell? ⟨g, off, none⟩ = some (.string p) ∧ W.cell? ⟨w.heap.size, 0, none⟩ = some (.int .i64 xk) ∧ W.cell? ⟨w.heap.size, 1, none⟩ = some (.int .i64 xi) ∧ W.cell? ⟨w.heap.size, 2, none⟩ = some (.string xt) ∧ W.cell? ⟨w.heap.size, 3, none⟩ = some (.slice la ln lc) ∧ W.cell? ⟨w.heap.size, 4, none⟩ = some (.slice fa fn fc) ∧ W.cell? ⟨w.heap.size + 1, 0, none⟩ = some (curCell W (w.heap.size + 1) 0) ∧ W.cell? ⟨w.heap.size + 1, 1, none⟩ = some (curCell W (w.heap.size + 1) 1) ∧ W.cell? ⟨w.heap.size + 1, 2, none⟩ = some (curCell W (w.heap.size + 1) 2) ∧ W.cell? ⟨w.heap.size + 1, 3, none⟩ = some (curCell W (w.heap.size + 1) 3) ∧ W.cell? ⟨w.heap.size + 1, 4, none⟩ = some (curCell W (w.heap.size + 1) 4) ∧ W.frozen? ⟨w.heap.size + 1, 0, none⟩ = false ∧ W.frozen? ⟨w.heap.size + 1, 1, none⟩ = false ∧ W.frozen? ⟨w.heap.size + 1, 2, none⟩ = false ∧ W.frozen? ⟨w.heap.size + 1, 3, none⟩ = false ∧ W.frozen? ⟨w.heap.size + 1, 4, none⟩ = false)
    (first
      | with_reducible assumption
      | (with_reducible (refine KS11.out _ ?_ ?_; apply Only.draw; exact Only.refl _ _; exact GB.draw HGB.out))
      | (with_reducible (refine KS11.out _ ?_ ?_; refine Only.bel ?_ hb3; exact And.left (by assumption); exact GB.bel (And.left (And.right (by assumption))) hb3))
      | (with_reducible (refine KS11.out _ ?_ ?_; refine Only.trans ?_ (only5 _ _ _ _ _ _ _) (fun _ h => .inl h); exact And.left (by assumption); refine gb_set50 ?_ (Nat.le_refl _) _ _ _ _ _; exact And.left (And.right (by assumption)))))
    (first
      | (go_at_call 65; refine (HWO.out _ (And.left (by assumption))).mono ?_; rintro e w7 ⟨y7, l7, m7, c7, g7, f7, h7, rfl, hy7, hr7, hb3⟩; have HR7 := Ap.of (And.intro hy7 hr7); clear hy7 hr7))
  have br8 := blk_set5 (blk_bel (blk_draw HBR.out) hb3) (.int .i64 y7.kind) (.int .i64 y7.int) (.string y7.text) (.slice l7 m7 c7) (.slice g7 f7 h7)
  have hs8 := only5 w7 (w.heap.size + 1) (.int .i64 y7.kind) (.int .i64 y7.int) (.string y7.text) (.slice l7 m7 c7) (.slice g7 f7 h7)
  have hB7 := bel_stepB HB2.out.drew HB2.out.size hb3
  have hB8 := bel_only hB7 hB7.size hs8 (fun j he => by omega)
  have hR8 := (KV (E + 2)).mono (ok' := fun k => ok k ∨ w.heap.size ≤ k) (fun k hk => by
      rcases hk with h | h
      · exact .inl h.1
      · exact .inr (Nat.le_trans HB2.out.size h)) (Knd.only HR7.out.2 hs8 (fun k hk e => by
    have hz := HSZ.out
    rcases hk with h | h
    · have := h.2; omega
    · have h' : W0.heap.size ≤ k := h
      omega))
  generalize (((((w7.setCell ⟨w.heap.size + 1, 0, none⟩ (.int .i64 y7.kind)).setCell ⟨w.heap.size + 1, 1, none⟩ (.int .i64 y7.int)).setCell ⟨w.heap.size + 1, 2, none⟩ (.string y7.text)).setCell ⟨w.heap.size + 1, 3, none⟩ (.slice l7 m7 c7)).setCell ⟨w.heap.size + 1, 4, none⟩ (.slice g7 f7 h7)) = W8 at br8 hs8 hB8 hR8 ⊢
  have dr8 := blk_cells br8
  have lr8 := blk_lt br8
  have HB8' := Ap.of hB8
  have HR8' := Ap.of hR8
  clear br8 hs8 hB7 hB8 hR8 hb3
  go_wp2_with fail
  exact bodyPost_ret (v := .tuple #[.agg #[.int .i64 y7.kind, .int .i64 y7.int, .string y7.text, .slice l7 m7 c7, .slice g7 f7 h7], .bool res.isSome]) (by simp [results, Tryz.results39, go_sem, dr8]) rfl
    ⟨y7, l7, m7, c7, g7, f7, h7, rfl, HR7.out.1, HR8'.out, HB8'.out⟩

theorem cut_eq (x : Val) (p : ByteArray) (t : List ByteArray) (ht : t ≠ []) : x.cut (p :: t) = (x.step p).bind (fun y => (y.cut t).map (x.with p)) := by
  cases t with
  | nil => exact (ht rfl).elim
  | cons q r =>
    show (match x.step p with | none => none | some y => (y.cut (q :: r)).map (x.with p)) = _
    cases x.step p <;> rfl

set_option maxRecDepth 100000 in
set_option maxHeartbeats 4000000 in
theorem cut_cons (m : Nat) (ih : CutS (m + 1)) : CutS (m + 2) := by
  intro E x l N la ln lc fa fn fc A n c ok w hl hF hN G hrow hx
  obtain ⟨p, r, rfl⟩ : ∃ p r, l = p :: r := by cases l with | nil => cases hl | cons p r => exact ⟨p, r, rfl⟩
  have hlr : r.length = m + 1 := by simpa using hl
  have hrn : r ≠ [] := by rintro rfl; simp at hlr
  rw [← hlr] at ih
  have hm2 : E + (m + 2) + 1 = E + r.length + 2 := by omega
  rw [hm2] at hx ⊢
  clear hm2
  have hrow8 := Row.bound hrow
  obtain ⟨g, off, A', c', rfl, rfl, hpsz, hlg, hpc, hcut, htail⟩ := row_tail hrow8
  have hb3 := bel_step (bel_alloc w (.cells #[.int .i64 x.kind, .int .i64 x.int, .string x.text, .slice la ln lc, .slice fa fn fc] 28)) (bel_alloc _ (.cells #[.int .i64 0, .int .i64 0, .string ⟨#[]⟩, .slice none 0 0, .slice none 0 0] 28))
  have hstep := fun W (hW : Below w.heap.size w W) => step_calls (E + r.length) x la ln lc fa fn fc p hpsz (fun k => ok k ∧ k < w.heap.size) W (G.below hW) hF.len (Knd.below ((KV (E + r.length + 2)).bound hx) hW)
  have hih : ∀ (z : Val) (za : Option Addr) (zn zc : Nat) (fa3 : Option Addr) (fn3 fc3 : Nat) (W : World), Below w.heap.size w W → Few N z → (KV (E + r.length + 1)).R W (fun k => ok k ∧ k < w.heap.size) z [.int .i64 z.kind, .int .i64 z.int, .string z.text, .slice za zn zc, .slice fa3 fn3 fc3] →
      Calls Tryz.prog 39 #[.agg #[.int .i64 z.kind, .int .i64 z.int, .string z.text, .slice za zn zc, .slice fa3 fn3 fc3], .slice A' r.length c'] W (CutP (E + r.length + 1) W (fun k => ok k ∧ k < w.heap.size) z (z.cut r)) := fun z za zn zc fa3 fn3 fc3 W hW hz hR =>
    ih E z r N za zn zc fa3 fn3 fc3 A' r.length c' _ W rfl hz hN (G.below hW) (htail W (Row.below hrow8 hW)) hR
  have hwith : ∀ (z : Val) (za : Option Addr) (zn zc : Nat) (fa3 : Option Addr) (fn3 fc3 : Nat) (B : Nat) (W : World), Below w.heap.size w W → x.has p → (KV (E + r.length + 1)).R W (fun k => (ok k ∧ k < w.heap.size) ∨ B ≤ k) z [.int .i64 z.kind, .int .i64 z.int, .string z.text, .slice za zn zc, .slice fa3 fn3 fc3] →
      Calls Tryz.prog 64 #[.agg #[.int .i64 x.kind, .int .i64 x.int, .string x.text, .slice la ln lc, .slice fa fn fc], .string p, .agg #[.int .i64 z.kind, .int .i64 z.int, .string z.text, .slice za zn zc, .slice fa3 fn3 fc3]] W (RetV (E + r.length + 2) W (fun k => (ok k ∧ k < w.heap.size) ∨ B ≤ k) (x.with p z)) := fun z za zn zc fa3 fn3 fc3 B W hW hh hR =>
    with_calls (E + r.length) x z la ln lc fa fn fc za zn zc fa3 fn3 fc3 p (fun k => (ok k ∧ k < w.heap.size) ∨ B ≤ k) W hh hpsz (G.below hW) hF.len (Nat.le_trans hF.flen hN) ((KV (E + r.length + 2)).mono (fun k hk => .inl hk) (Knd.below ((KV (E + r.length + 2)).bound hx) hW)) hR
  have HIH := Ap.of hih
  have HWI := Ap.of hwith
  clear hih hwith
  have HST := Ap.of hstep
  have HX := Ap.of ((KV (E + r.length + 2)).bound hx)
  have HF := Ap.of hF
  have HB3 := Ap.of hb3
  have HPC := Ap.of hpc
  have bx := blk_old (o' := .cells #[.int .i64 0, .int .i64 0, .string ⟨#[]⟩, .slice none 0 0, .slice none 0 0] 28) (blk_new (w := w) (k := w.heap.size) (o := .cells #[.int .i64 x.kind, .int .i64 x.int, .string x.text, .slice la ln lc, .slice fa fn fc] 28) rfl)
  have br := blk_new (w := w.alloc (.cells #[.int .i64 x.kind, .int .i64 x.int, .string x.text, .slice la ln lc, .slice fa fn fc] 28)) (k := w.heap.size + 1) (o := .cells #[.int .i64 0, .int .i64 0, .string ⟨#[]⟩, .slice none 0 0, .slice none 0 0] 28) (by simp)
  have HBX := Ap.of bx
  have HBR := Ap.of br
  have hcell0 := (hb3.cell (p := ⟨g, off, none⟩) hlg).trans hpc
  have hne : ((r.length : Int) + 1 == 0) = false := by simp; omega
  have hne1 : ((r.length : Int) + 1 == 1) = false := by simp; omega
  have hks : ∀ W, Below ((w.alloc (.cells #[.int .i64 x.kind, .int .i64 x.int, .string x.text, .slice la ln lc, .slice fa fn fc] 28)).alloc (.cells #[.int .i64 0, .int .i64 0, .string ⟨#[]⟩, .slice none 0 0, .slice none 0 0] 28)).heap.size ((w.alloc (.cells #[.int .i64 x.kind, .int .i64 x.int, .string x.text, .slice la ln lc, .slice fa fn fc] 28)).alloc (.cells #[.int .i64 0, .int .i64 0, .string ⟨#[]⟩, .slice none 0 0, .slice none 0 0] 28)) W → (Below ((w.alloc (.cells #[.int .i64 x.kind, .int .i64 x.int, .string x.text, .slice la ln lc, .slice fa fn fc] 28)).alloc (.cells #[.int .i64 0, .int .i64 0, .string ⟨#[]⟩, .slice none 0 0, .slice none 0 0] 28)).heap.size ((w.alloc (.cells #[.int .i64 x.kind, .int .i64 x.int, .string x.text, .slice la ln lc, .slice fa fn fc] 28)).alloc (.cells #[.int .i64 0, .int .i64 0, .string ⟨#[]⟩, .slice none 0 0, .slice none 0 0] 28)) W ∧
      W.cell? ⟨w.heap.size, 0, none⟩ = some (.int .i64 x.kind) ∧ W.cell? ⟨w.heap.size, 1, none⟩ = some (.int .i64 x.int) ∧ W.cell? ⟨w.heap.size, 2, none⟩ = some (.string x.text) ∧ W.cell? ⟨w.heap.size, 3, none⟩ = some (.slice la ln lc) ∧ W.cell? ⟨w.heap.size, 4, none⟩ = some (.slice fa fn fc) ∧ W.cell? ⟨g, off, none⟩ = some (.string p)) := fun W ho => by
    have e1 := blk_cells (blk_bel bx ho)
    refine ⟨ho, e1 0, e1 1, e1 2, e1 3, e1 4, (ho.cell (p := ⟨g, off, none⟩) (by simp; omega)).trans hcell0⟩
  have KS := Ap.of hks
  have HRN := Ap.of hrn
  clear hks hstep hx hrow hrow8 htail hF hpsz ih G hb3 hpc bx br hcell0 hl hlr hrn
  have hp1 := cut_eq x p r HRN.out
  generalize x.cut (p :: r) = res at *
  have HRES := Ap.of hp1
  clear hp1
  generalize hxk : x.kind = xk at *
  generalize hxi : x.int = xi at *
  generalize hxt : x.text = xt at *
  have HXE := Ap.of (And.intro hxk (And.intro hxi hxt))
  go_enter Tryz.func39, Tryz.ntmps39
  go_wp2_with fail
  generalize hW0 : ((w.alloc (.cells #[.int .i64 xk, .int .i64 xi, .string xt, .slice la ln lc, .slice fa fn fc] 28)).alloc (.cells #[.int .i64 0, .int .i64 0, .string ⟨#[]⟩, .slice none 0 0, .slice none 0 0] 28)) = W0 at *
  have HSZ := Ap.of (show W0.heap.size = w.heap.size + 2 by rw [← hW0]; simp)
  clear hW0
  have HOB := Ap.of (show ∀ W, Below W0.heap.size W0 W → Below w.heap.size w W from fun W h => bel_step HB3.out h)
  go_region_held3 (fun W => Below W0.heap.size W0 W ∧
      W.cell? ⟨w.heap.size, 0, none⟩ = some (.int .i64 xk) ∧ W.cell? ⟨w.heap.size, 1, none⟩ = some (.int .i64 xi) ∧ W.cell? ⟨w.heap.size, 2, none⟩ = some (.string xt) ∧ W.cell? ⟨w.heap.size, 3, none⟩ = some (.slice la ln lc) ∧ W.cell? ⟨w.heap.size, 4, none⟩ = some (.slice fa fn fc) ∧ W.cell? ⟨g, off, none⟩ = some (.string p))
    (first
      | with_reducible assumption
      | (with_reducible (refine KS.out _ ?_; apply Below.drew; exact Below.refl _ _))
      | (with_reducible (refine KS.out _ ?_; apply Below.drew; apply Below.alloc; exact Below.refl _ _; exact Nat.le_refl _))
      | (with_reducible (refine KS.out _ ?_; apply bel_stepB _ _ hb3; exact And.left (by assumption); exact (Below.size (And.left (by assumption)))))
      | (with_reducible (refine KS.out _ ?_; apply Below.alloc; exact (And.left (by assumption)); exact (Below.size (And.left (by assumption)))))
      | (with_reducible (refine KS.out _ ?_; apply bel_after; assumption))
      | (with_reducible (refine KS.out _ ?_; apply bel_set5; exact (And.left (by assumption)))))
    (first
      | (go_at_call 42; refine (HST.out _ (HOB.out _ (And.left (by assumption)))).mono ?_; rintro e w3 ⟨y, ya, yn, yc, za, zn, zc, rfl, hy, hr, hb3⟩; have HY := Ap.of hy; have HR := Ap.of hr; clear hy hr; (first | (have c8 := blk_cells (blk_bel (blk_draw (blk_new (w := W0) (k := W0.heap.size) (o := .cells #[.int .i64 0, .int .i64 0, .string ⟨#[]⟩, .slice none 0 0, .slice none 0 0] 28) rfl)) hb3); have f8 := blk_free (blk_bel (blk_draw (blk_new (w := W0) (k := W0.heap.size) (o := .cells #[.int .i64 0, .int .i64 0, .string ⟨#[]⟩, .slice none 0 0, .slice none 0 0] 28) rfl)) hb3); have l8 := blk_lt (blk_bel (blk_draw (blk_new (w := W0) (k := W0.heap.size) (o := .cells #[.int .i64 0, .int .i64 0, .string ⟨#[]⟩, .slice none 0 0, .slice none 0 0] 28) rfl)) hb3)) | skip)))
  all_goals (first
    | (have hb8 := blk_set5 (blk_bel (blk_draw (blk_new (w := W0) (k := W0.heap.size) (o := .cells #[.int .i64 0, .int .i64 0, .string ⟨#[]⟩, .slice none 0 0, .slice none 0 0] 28) rfl)) hb3) (.int .i64 y.kind) (.int .i64 y.int) (.string y.text) (.slice ya yn yc) (.slice za zn zc)
       have hB8 := bel_set5 (bel_stepB ((Below.alloc (Below.refl _ W0) (Nat.le_refl _) (.cells #[.int .i64 0, .int .i64 0, .string ⟨#[]⟩, .slice none 0 0, .slice none 0 0] 28)).drew) (by simp) hb3) (.int .i64 y.kind) (.int .i64 y.int) (.string y.text) (.slice ya yn yc) (.slice za zn zc)
       have hR8 := Knd.only HR.out (only5 w3 W0.heap.size (.int .i64 y.kind) (.int .i64 y.int) (.string y.text) (.slice ya yn yc) (.slice za zn zc)) (fun k hk e => by have := hk.2; have := HSZ.out; omega)
       generalize (((((w3.setCell ⟨W0.heap.size, 0, none⟩ (.int .i64 y.kind)).setCell ⟨W0.heap.size, 1, none⟩ (.int .i64 y.int)).setCell ⟨W0.heap.size, 2, none⟩ (.string y.text)).setCell ⟨W0.heap.size, 3, none⟩ (.slice ya yn yc)).setCell ⟨W0.heap.size, 4, none⟩ (.slice za zn zc)) = W3 at hb8 hB8 hR8 ⊢
       have HN8 : ∃ n, W0.heap.size ≤ n ∧ n = W0.heap.size := ⟨_, Nat.le_refl _, rfl⟩
       obtain ⟨n8, hn8, he8⟩ := HN8
       rw [← he8] at hb8 ⊢
       clear he8)
    | (have hb8 := blk_new (w := w3) (k := w3.heap.size) (o := .cells #[.int .i64 y.kind, .int .i64 y.int, .string y.text, .slice ya yn yc, .slice za zn zc] 28) rfl
       have hB8 := bel_after hb3 (.cells #[.int .i64 y.kind, .int .i64 y.int, .string y.text, .slice ya yn yc, .slice za zn zc] 28)
       have hR8 := Knd.below HR.out (bel_alloc w3 (.cells #[.int .i64 y.kind, .int .i64 y.int, .string y.text, .slice ya yn yc, .slice za zn zc] 28))
       have HN8 : ∃ n, W0.heap.size ≤ n ∧ n = w3.heap.size := ⟨_, hb3.size, rfl⟩
       generalize w3.alloc (.cells #[.int .i64 y.kind, .int .i64 y.int, .string y.text, .slice ya yn yc, .slice za zn zc] 28) = W3 at hb8 hB8 hR8 ⊢
       obtain ⟨n8, hn8, he8⟩ := HN8
       rw [← he8] at hb8 ⊢
       clear he8))
  all_goals (
    have bx3 := blk_bel HBX.out hB8
    have br3 := blk_bel HBR.out hB8
    have cp3 : W3.cell? ⟨g, off, none⟩ = some (.string p) := ((HOB.out _ hB8).cell (p := ⟨g, off, none⟩) hlg).trans HPC.out
    have HB8 := Ap.of hB8
    have HR8 := Ap.of hR8
    have HN8 := Ap.of hn8
    have HBB := Ap.of hb8
    have dx := blk_cells bx3
    have lx := blk_lt bx3
    have dr := blk_cells br3
    have fr := blk_free br3
    have lr := blk_lt br3
    clear hb8 bx3 br3 hB8 hR8 hn8 hb3
    cases hst : x.step p
    case' none =>
      have HSP := Ap.of hst
      clear hst
      go_wp2_with fail
      have hs4 := only5 W3 (w.heap.size + 1) (.int .i64 xk) (.int .i64 xi) (.string xt) (.slice la ln lc) (.slice fa fn fc)
      have hB4 := HOB.out _ HB8.out
      exact bodyPost_ret (v := .tuple #[.agg #[.int .i64 xk, .int .i64 xi, .string xt, .slice la ln lc, .slice fa fn fc], .bool false]) (by simp [results, Tryz.results39, go_sem, dr]) rfl
        (CutP.mk hxk.symm hxi.symm hxt.symm (by rw [HRES.out, HSP.out]; rfl) (by rw [HRES.out, HSP.out]; rfl) (by rw [hxk, hxi, hxt]; exact (KV (E + r.length + 2)).mono (fun k hk => .inl hk.1) (Knd.only (Knd.below HX.out hB4) hs4 (fun k hk e => by have := hk.2; omega))) (bel_only hB4 hB4.size hs4 (fun j he => by omega)))
    case' some y' =>
      have HSP := Ap.of hst
      clear hst
      go_wp2_with fail
      have hz : y = y' := by rw [HY.out, HSP.out]; rfl
      clear dx lx dr fr lr cp3
      have HHAS := Ap.of (show x.has p from .inr (by rw [HSP.out]; rfl))
      have HFZ := Ap.of (show Few N y by rw [hz]; exact HF.out.step HSP.out)
      have HRS := Ap.of (show res = (y.cut r).map (x.with p) by rw [HRES.out, HSP.out, hz]; rfl)
      clear hz
      have hks8 : ∀ W, Below W3.heap.size W3 W → (Below W3.heap.size W3 W ∧ W.cell? ⟨n8, 0, none⟩ = some (.int .i64 y.kind) ∧ W.cell? ⟨n8, 1, none⟩ = some (.int .i64 y.int) ∧ W.cell? ⟨n8, 2, none⟩ = some (.string y.text) ∧ W.cell? ⟨n8, 3, none⟩ = some (.slice ya yn yc) ∧ W.cell? ⟨n8, 4, none⟩ = some (.slice za zn zc)) := fun W ho => by
        have e1 := blk_cells (blk_bel HBB.out ho)
        exact ⟨ho, e1 0, e1 1, e1 2, e1 3, e1 4⟩
      have KS8 := Ap.of hks8
      have HOB4 := Ap.of (show ∀ W, Below W3.heap.size W3 W → Below w.heap.size w W from fun W h => HOB.out _ (bel_stepB HB8.out HB8.out.size h))
      clear hks8
      generalize hcy : y.cut r = oc at *
      have HCY := Ap.of hcy
      clear hcy
      go_region_held3 (fun W => Below W3.heap.size W3 W ∧ W.cell? ⟨n8, 0, none⟩ = some (.int .i64 y.kind) ∧ W.cell? ⟨n8, 1, none⟩ = some (.int .i64 y.int) ∧ W.cell? ⟨n8, 2, none⟩ = some (.string y.text) ∧ W.cell? ⟨n8, 3, none⟩ = some (.slice ya yn yc) ∧ W.cell? ⟨n8, 4, none⟩ = some (.slice za zn zc))
        (first
      | with_reducible assumption
      | (with_reducible (refine KS8.out _ ?_; apply Below.drew; exact Below.refl _ _))
      | (with_reducible (refine KS8.out _ ?_; apply Below.drew; apply Below.alloc; exact Below.refl _ _; exact Nat.le_refl _))
      | (with_reducible (refine KS8.out _ ?_; apply bel_stepB _ _ hb3; exact And.left (by assumption); exact (Below.size (And.left (by assumption)))))
      | (with_reducible (refine KS8.out _ ?_; apply Below.alloc; exact (And.left (by assumption)); exact (Below.size (And.left (by assumption)))))
      | (with_reducible (refine KS8.out _ ?_; apply bel_after; assumption))
      | (with_reducible (refine KS8.out _ ?_; apply bel_set5; exact (And.left (by assumption)))))
        (first
          | (go_at_call 39; refine (HIH.out y ya yn yc za zn zc _ (HOB4.out _ (And.left (by assumption))) HFZ.out (Knd.below HR8.out (And.left (by assumption)))).mono ?_; rw [HCY.out]; rintro e w5 ⟨y2, l5, m5, c5, g5, f5, h5, rfl, hy2, hd, hb3⟩; have HD5 := Ap.of hd; have HY2 := Ap.of hy2; clear hd hy2; (first | (have c8 := blk_cells (blk_bel (blk_draw (blk_new (w := W3) (k := W3.heap.size) (o := .cells #[.int .i64 0, .int .i64 0, .string ⟨#[]⟩, .slice none 0 0, .slice none 0 0] 28) rfl)) hb3); have f8 := blk_free (blk_bel (blk_draw (blk_new (w := W3) (k := W3.heap.size) (o := .cells #[.int .i64 0, .int .i64 0, .string ⟨#[]⟩, .slice none 0 0, .slice none 0 0] 28) rfl)) hb3); have l8 := blk_lt (blk_bel (blk_draw (blk_new (w := W3) (k := W3.heap.size) (o := .cells #[.int .i64 0, .int .i64 0, .string ⟨#[]⟩, .slice none 0 0, .slice none 0 0] 28) rfl)) hb3)) | skip)))
      all_goals (first
        | (have hb6 := blk_set5 (blk_bel (blk_draw (blk_new (w := W3) (k := W3.heap.size) (o := .cells #[.int .i64 0, .int .i64 0, .string ⟨#[]⟩, .slice none 0 0, .slice none 0 0] 28) rfl)) hb3) (.int .i64 y2.kind) (.int .i64 y2.int) (.string y2.text) (.slice l5 m5 c5) (.slice g5 f5 h5)
           have hB6 := bel_set5 (bel_stepB ((Below.alloc (Below.refl _ W3) (Nat.le_refl _) (.cells #[.int .i64 0, .int .i64 0, .string ⟨#[]⟩, .slice none 0 0, .slice none 0 0] 28)).drew) (by simp) hb3) (.int .i64 y2.kind) (.int .i64 y2.int) (.string y2.text) (.slice l5 m5 c5) (.slice g5 f5 h5)
           have hs6 := only5 w5 W3.heap.size (.int .i64 y2.kind) (.int .i64 y2.int) (.string y2.text) (.slice l5 m5 c5) (.slice g5 f5 h5)
           have HD6 : Ap ((KV (E + r.length + 1)).R (((((w5.setCell ⟨W3.heap.size, 0, none⟩ (.int .i64 y2.kind)).setCell ⟨W3.heap.size, 1, none⟩ (.int .i64 y2.int)).setCell ⟨W3.heap.size, 2, none⟩ (.string y2.text)).setCell ⟨W3.heap.size, 3, none⟩ (.slice l5 m5 c5)).setCell ⟨W3.heap.size, 4, none⟩ (.slice g5 f5 h5)) (fun k => (ok k ∧ k < w.heap.size) ∨ W3.heap.size ≤ k) y2 [.int .i64 y2.kind, .int .i64 y2.int, .string y2.text, .slice l5 m5 c5, .slice g5 f5 h5]) := Ap.of ((KV (E + r.length + 1)).mono (fun k hk => by
             rcases hk with h | h
             · exact .inl h
             · have h' : W3.heap.size + 1 ≤ k := by simpa using h
               exact .inr (by omega)) (Knd.only HD5.out hs6 (fun k hk e => by
             rcases hk with h | h
             · have h1 := h.2
               have h2 := HB8.out.size
               have h3 := HSZ.out
               omega
             · have h' : W3.heap.size + 1 ≤ k := by simpa using h
               omega)))
           clear HD5 hs6
           generalize (((((w5.setCell ⟨W3.heap.size, 0, none⟩ (.int .i64 y2.kind)).setCell ⟨W3.heap.size, 1, none⟩ (.int .i64 y2.int)).setCell ⟨W3.heap.size, 2, none⟩ (.string y2.text)).setCell ⟨W3.heap.size, 3, none⟩ (.slice l5 m5 c5)).setCell ⟨W3.heap.size, 4, none⟩ (.slice g5 f5 h5)) = W6 at hb6 hB6 HD6 ⊢
           obtain ⟨n10, hn10, he10⟩ : ∃ n, W3.heap.size ≤ n ∧ n = W3.heap.size := ⟨_, Nat.le_refl _, rfl⟩
           rw [← he10] at hb6 ⊢
           clear he10 hb3)
        | (have hb6 := blk_new (w := w5) (k := w5.heap.size) (o := .cells #[.int .i64 y2.kind, .int .i64 y2.int, .string y2.text, .slice l5 m5 c5, .slice g5 f5 h5] 28) rfl
           have hB6 := bel_after hb3 (.cells #[.int .i64 y2.kind, .int .i64 y2.int, .string y2.text, .slice l5 m5 c5, .slice g5 f5 h5] 28)
           have HD6 : Ap ((KV (E + r.length + 1)).R (w5.alloc (.cells #[.int .i64 y2.kind, .int .i64 y2.int, .string y2.text, .slice l5 m5 c5, .slice g5 f5 h5] 28)) (fun k => (ok k ∧ k < w.heap.size) ∨ W3.heap.size ≤ k) y2 [.int .i64 y2.kind, .int .i64 y2.int, .string y2.text, .slice l5 m5 c5, .slice g5 f5 h5]) := Ap.of (Knd.below HD5.out (bel_alloc _ _))
           clear HD5
           obtain ⟨n10, hn10, he10⟩ : ∃ n, W3.heap.size ≤ n ∧ n = w5.heap.size := ⟨_, hb3.size, rfl⟩
           generalize (w5.alloc (.cells #[.int .i64 y2.kind, .int .i64 y2.int, .string y2.text, .slice l5 m5 c5, .slice g5 f5 h5] 28)) = W6 at hb6 hB6 HD6 ⊢
           rw [← he10] at hb6 ⊢
           clear he10 hb3)))
  all_goals (
    have bx6 := blk_bel (blk_bel HBX.out HB8.out) hB6
    have br6 := blk_bel (blk_bel HBR.out HB8.out) hB6
    have cp6 : W6.cell? ⟨g, off, none⟩ = some (.string p) := ((HOB4.out _ hB6).cell (p := ⟨g, off, none⟩) hlg).trans HPC.out
    have HB6 := Ap.of (HOB4.out _ hB6)
    cases oc
    case' none =>
      have dx6 := blk_cells bx6
      have lx6 := blk_lt bx6
      have dr6 := blk_cells br6
      have fr6 := blk_free br6
      have lr6 := blk_lt br6
      clear hb6 hB6 bx6 br6 hn10 cp6
      go_wp2_with fail
      have hs4 := only5 W6 (w.heap.size + 1) (.int .i64 xk) (.int .i64 xi) (.string xt) (.slice la ln lc) (.slice fa fn fc)
      exact bodyPost_ret (v := .tuple #[.agg #[.int .i64 xk, .int .i64 xi, .string xt, .slice la ln lc, .slice fa fn fc], .bool false]) (by simp [results, Tryz.results39, go_sem, dr6]) rfl
        (CutP.mk hxk.symm hxi.symm hxt.symm (by rw [HRS.out]; rfl) (by rw [HRS.out]; rfl) (by rw [hxk, hxi, hxt]; exact (KV (E + r.length + 2)).mono (fun k hk => .inl hk.1) (Knd.only (Knd.below HX.out HB6.out) hs4 (fun k hk e => by have := hk.2; omega))) (bel_only HB6.out HB6.out.size hs4 (fun j he => by omega)))
    case' some y3 =>
      have hy3 : y2 = y3 := HY2.out
      subst hy3
      have gb0 : GB (w.heap.size + 1) 5 28 W6 := ⟨_, br6, rfl⟩
      have hks : ∀ W, Only (fun j => j = w.heap.size + 1) W6 W → GB (w.heap.size + 1) 5 28 W → (Only (fun j => j = w.heap.size + 1) W6 W ∧ GB (w.heap.size + 1) 5 28 W ∧ W.cell? ⟨g, off, none⟩ = some (.string p) ∧ W.cell? ⟨w.heap.size, 0, none⟩ = some (.int .i64 xk) ∧ W.cell? ⟨w.heap.size, 1, none⟩ = some (.int .i64 xi) ∧ W.cell? ⟨w.heap.size, 2, none⟩ = some (.string xt) ∧ W.cell? ⟨w.heap.size, 3, none⟩ = some (.slice la ln lc) ∧ W.cell? ⟨w.heap.size, 4, none⟩ = some (.slice fa fn fc) ∧ W.cell? ⟨n10, 0, none⟩ = some (.int .i64 y2.kind) ∧ W.cell? ⟨n10, 1, none⟩ = some (.int .i64 y2.int) ∧ W.cell? ⟨n10, 2, none⟩ = some (.string y2.text) ∧ W.cell? ⟨n10, 3, none⟩ = some (.slice l5 m5 c5) ∧ W.cell? ⟨n10, 4, none⟩ = some (.slice g5 f5 h5) ∧ W.cell? ⟨w.heap.size + 1, 0, none⟩ = some (curCell W (w.heap.size + 1) 0) ∧ W.cell? ⟨w.heap.size + 1, 1, none⟩ = some (curCell W (w.heap.size + 1) 1) ∧ W.cell? ⟨w.heap.size + 1, 2, none⟩ = some (curCell W (w.heap.size + 1) 2) ∧ W.cell? ⟨w.heap.size + 1, 3, none⟩ = some (curCell W (w.heap.size + 1) 3) ∧ W.cell? ⟨w.heap.size + 1, 4, none⟩ = some (curCell W (w.heap.size + 1) 4) ∧ W.frozen? ⟨w.heap.size + 1, 0, none⟩ = false ∧ W.frozen? ⟨w.heap.size + 1, 1, none⟩ = false ∧ W.frozen? ⟨w.heap.size + 1, 2, none⟩ = false ∧ W.frozen? ⟨w.heap.size + 1, 3, none⟩ = false ∧ W.frozen? ⟨w.heap.size + 1, 4, none⟩ = false) := fun W ho hgb => by
        have hz := HSZ.out
        have h8 := HN8.out
        have h43 := HB8.out.size
        have e1 := blk_cells (blk_only bx6 ho (fun e => by omega))
        have e2 := blk_cells (blk_only hb6 ho (fun e => by omega))
        exact ⟨ho, hgb, (only_cell ho (q := ⟨g, off, none⟩) (World.block_lt_of_cell? _ _ cp6) (fun e => by have e : g = w.heap.size + 1 := e; omega)).trans cp6, e1 0, e1 1, e1 2, e1 3, e1 4, e2 0, e2 1, e2 2, e2 3, e2 4, (hgb.cell (by omega)).1, (hgb.cell (by omega)).1, (hgb.cell (by omega)).1, (hgb.cell (by omega)).1, (hgb.cell (by omega)).1, (hgb.cell (by omega)).2, (hgb.cell (by omega)).2, (hgb.cell (by omega)).2, (hgb.cell (by omega)).2, (hgb.cell (by omega)).2⟩
      have KS11 := Ap.of hks
      have HGB := Ap.of gb0
      have HWO := Ap.of (show ∀ W, Only (fun j => j = w.heap.size + 1) W6 W → Calls Tryz.prog 64 _ W _ from fun W ho => HWI.out y2 l5 m5 c5 g5 f5 h5 W3.heap.size W (bel_only HB6.out HB6.out.size ho (fun j he => by omega)) HHAS.out (Knd.only HD6.out ho (fun k hk e => by
        have hz := HSZ.out
        have h43 := HB8.out.size
        rcases hk with h | h
        · have := h.2; omega
        · omega)))
      have BR6 := Ap.of br6
      clear hks gb0 hb6 hB6 bx6 br6 hn10 cp6
      go_wp2_with fail
      go_region_held3 (fun W => Only (fun j => j = w.heap.size + 1) W6 W ∧ GB (w.heap.size + 1) 5 28 W ∧ W.cell? ⟨g, off, none⟩ = some (.string p) ∧ W.cell? ⟨w.heap.size, 0, none⟩ = some (.int .i64 xk) ∧ W.cell? ⟨w.heap.size, 1, none⟩ = some (.int .i64 xi) ∧ W.cell? ⟨w.heap.size, 2, none⟩ = some (.string xt) ∧ W.cell? ⟨w.heap.size, 3, none⟩ = some (.slice la ln lc) ∧ W.cell? ⟨w.heap.size, 4, none⟩ = some (.slice fa fn fc) ∧ W.cell? ⟨n10, 0, none⟩ = some (.int .i64 y2.kind) ∧ W.cell? ⟨n10, 1, none⟩ = some (.int .i64 y2.int) ∧ W.cell? ⟨n10, 2, none⟩ = some (.string y2.text) ∧ W.cell? ⟨n10, 3, none⟩ = some (.slice l5 m5 c5) ∧ W.cell? ⟨n10, 4, none⟩ = some (.slice g5 f5 h5) ∧ W.cell? ⟨w.heap.size + 1, 0, none⟩ = some (curCell W (w.heap.size + 1) 0) ∧ W.cell? ⟨w.heap.size + 1, 1, none⟩ = some (curCell W (w.heap.size + 1) 1) ∧ W.cell? ⟨w.heap.size + 1, 2, none⟩ = some (curCell W (w.heap.size + 1) 2) ∧ W.cell? ⟨w.heap.size + 1, 3, none⟩ = some (curCell W (w.heap.size + 1) 3) ∧ W.cell? ⟨w.heap.size + 1, 4, none⟩ = some (curCell W (w.heap.size + 1) 4) ∧ W.frozen? ⟨w.heap.size + 1, 0, none⟩ = false ∧ W.frozen? ⟨w.heap.size + 1, 1, none⟩ = false ∧ W.frozen? ⟨w.heap.size + 1, 2, none⟩ = false ∧ W.frozen? ⟨w.heap.size + 1, 3, none⟩ = false ∧ W.frozen? ⟨w.heap.size + 1, 4, none⟩ = false)
        (first
          | with_reducible assumption
          | (with_reducible (refine KS11.out _ ?_ ?_; apply Only.draw; exact Only.refl _ _; exact GB.draw HGB.out))
          | (with_reducible (refine KS11.out _ ?_ ?_; refine Only.bel ?_ hb3; exact And.left (by assumption); exact GB.bel (And.left (And.right (by assumption))) hb3))
          | (with_reducible (refine KS11.out _ ?_ ?_; refine Only.trans ?_ (only5 _ _ _ _ _ _ _) (fun _ h => .inl h); exact And.left (by assumption); refine gb_set50 ?_ (Nat.le_refl _) _ _ _ _ _; exact And.left (And.right (by assumption)))))
        (first
          | (go_at_call 64; refine (HWO.out _ (And.left (by assumption))).mono ?_; rintro e w7 ⟨l7, m7, c7, g7, f7, h7, rfl, hr7, hb3⟩; have HR7 := Ap.of hr7; clear hr7))
      have br8 := blk_set5 (blk_bel (blk_draw BR6.out) hb3) (.int .i64 (x.with p y2).kind) (.int .i64 (x.with p y2).int) (.string (x.with p y2).text) (.slice l7 m7 c7) (.slice g7 f7 h7)
      have hs8 := only5 w7 (w.heap.size + 1) (.int .i64 (x.with p y2).kind) (.int .i64 (x.with p y2).int) (.string (x.with p y2).text) (.slice l7 m7 c7) (.slice g7 f7 h7)
      have hB7 := bel_stepB HB6.out.drew HB6.out.size hb3
      have hB8 := bel_only hB7 hB7.size hs8 (fun j he => by omega)
      have hR8 := (KV (E + r.length + 2)).mono (ok' := fun k => ok k ∨ w.heap.size ≤ k) (fun k hk => by
          have hz := HSZ.out
          have h4 := HB8.out.size
          rcases hk with (h | h) | h
          · exact .inl h.1
          · exact .inr (by omega)
          · exact .inr (Nat.le_trans HB6.out.size h)) (Knd.only HR7.out hs8 (fun k hk e => by
        have hz := HSZ.out
        have h4 := HB8.out.size
        have h6 := blk_lt BR6.out
        rcases hk with (h | h) | h
        · have := h.2; omega
        · omega
        · have h' : W6.heap.size ≤ k := h
          omega))
      generalize (((((w7.setCell ⟨w.heap.size + 1, 0, none⟩ (.int .i64 (x.with p y2).kind)).setCell ⟨w.heap.size + 1, 1, none⟩ (.int .i64 (x.with p y2).int)).setCell ⟨w.heap.size + 1, 2, none⟩ (.string (x.with p y2).text)).setCell ⟨w.heap.size + 1, 3, none⟩ (.slice l7 m7 c7)).setCell ⟨w.heap.size + 1, 4, none⟩ (.slice g7 f7 h7)) = W8 at br8 hs8 hB8 hR8 ⊢
      have dr8 := blk_cells br8
      have lr8 := blk_lt br8
      have HB8' := Ap.of hB8
      have HR8' := Ap.of hR8
      clear br8 hs8 hB7 hB8 hR8 hb3
      go_wp2_with fail
      exact bodyPost_ret (v := .tuple #[.agg #[.int .i64 (x.with p y2).kind, .int .i64 (x.with p y2).int, .string (x.with p y2).text, .slice l7 m7 c7, .slice g7 f7 h7], .bool true]) (by simp [results, Tryz.results39, go_sem, dr8]) rfl
        (CutP.mk (y := x.with p y2) rfl rfl rfl (by rw [HRS.out]; rfl) (by rw [HRS.out]; rfl) HR8'.out HB8'.out))
theorem cut_all : ∀ m, CutS m
  | 0 => cut_nil
  | 1 => cut_one
  | m + 2 => cut_cons m (cut_all (m + 1))
end Go.Proofs.YtlomieopppndeaaGreatDoor
