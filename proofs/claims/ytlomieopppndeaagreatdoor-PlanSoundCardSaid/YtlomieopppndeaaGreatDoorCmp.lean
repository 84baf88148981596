/- value.Cmp: values held against one another. -/
import Derived.Test.YtlomieopppndeaaGreatDoorCmpLaw
import Derived.Deep.RegionHeld3
namespace Go.Proofs.YtlomieopppndeaaGreatDoor
open Go.RowKit

set_option maxHeartbeats 1000000 in
theorem nanI_calls (a : Int) (w : World) : Calls Tryz.prog 111 #[.int .i64 a] w fun e w' => e = .returned (.bool false) ∧ w' = w := by
  go_enter Tryz.func111, Tryz.ntmps111
  go_wp2
  all_goals go_ret
  all_goals exact ⟨by simp, rfl⟩
set_option maxHeartbeats 1000000 in
theorem nanK_calls (a : Int) (w : World) : Calls Tryz.prog 110 #[.int .i64 a] w fun e w' => e = .returned (.bool false) ∧ w' = w := by
  go_enter Tryz.func110, Tryz.ntmps110
  go_wp2
  all_goals go_ret
  all_goals exact ⟨by simp, rfl⟩
set_option maxHeartbeats 1000000 in
theorem compI_calls (a b : Int) (w : World) : Calls Tryz.prog 73 #[.int .i64 a, .int .i64 b] w fun e w' => e = .returned (.int .i64 (cmpI a b)) ∧ w' = w := by
  by_cases h1 : a < b
  · have e1 : cmpI a b = -1 := if_pos h1
    rw [e1]
    clear e1
    go_enter Tryz.func73, Tryz.ntmps73
    go_wp2_with fail
    refine (nanI_calls a w).mono ?_
    rintro e w1 ⟨rfl, rfl⟩
    go_wp2_with fail
    refine (nanI_calls b w1).mono ?_
    rintro e w2 ⟨rfl, rfl⟩
    go_wp2_with fail
    go_ret
    exact ⟨rfl, rfl⟩
  · by_cases h2 : b < a
    · have e1 : cmpI a b = 1 := by unfold cmpI; rw [if_neg h1, if_pos h2]
      rw [e1]
      clear e1
      go_enter Tryz.func73, Tryz.ntmps73
      go_wp2_with fail
      refine (nanI_calls a w).mono ?_
      rintro e w1 ⟨rfl, rfl⟩
      go_wp2_with fail
      refine (nanI_calls b w1).mono ?_
      rintro e w2 ⟨rfl, rfl⟩
      go_wp2_with fail
      go_ret
      exact ⟨rfl, rfl⟩
    · have e1 : cmpI a b = 0 := by unfold cmpI; rw [if_neg h1, if_neg h2]
      rw [e1]
      clear e1
      go_enter Tryz.func73, Tryz.ntmps73
      go_wp2_with fail
      refine (nanI_calls a w).mono ?_
      rintro e w1 ⟨rfl, rfl⟩
      go_wp2_with fail
      refine (nanI_calls b w1).mono ?_
      rintro e w2 ⟨rfl, rfl⟩
      go_wp2_with fail
      go_ret
      exact ⟨rfl, rfl⟩
set_option maxHeartbeats 1000000 in
theorem compK_calls (a b : Int) (w : World) : Calls Tryz.prog 72 #[.int .i64 a, .int .i64 b] w fun e w' => e = .returned (.int .i64 (cmpI a b)) ∧ w' = w := by
  by_cases h1 : a < b
  · have e1 : cmpI a b = -1 := if_pos h1
    rw [e1]
    clear e1
    go_enter Tryz.func72, Tryz.ntmps72
    go_wp2_with fail
    refine (nanK_calls a w).mono ?_
    rintro e w1 ⟨rfl, rfl⟩
    go_wp2_with fail
    refine (nanK_calls b w1).mono ?_
    rintro e w2 ⟨rfl, rfl⟩
    go_wp2_with fail
    go_ret
    exact ⟨rfl, rfl⟩
  · by_cases h2 : b < a
    · have e1 : cmpI a b = 1 := by unfold cmpI; rw [if_neg h1, if_pos h2]
      rw [e1]
      clear e1
      go_enter Tryz.func72, Tryz.ntmps72
      go_wp2_with fail
      refine (nanK_calls a w).mono ?_
      rintro e w1 ⟨rfl, rfl⟩
      go_wp2_with fail
      refine (nanK_calls b w1).mono ?_
      rintro e w2 ⟨rfl, rfl⟩
      go_wp2_with fail
      go_ret
      exact ⟨rfl, rfl⟩
    · have e1 : cmpI a b = 0 := by unfold cmpI; rw [if_neg h1, if_neg h2]
      rw [e1]
      clear e1
      go_enter Tryz.func72, Tryz.ntmps72
      go_wp2_with fail
      refine (nanK_calls a w).mono ?_
      rintro e w1 ⟨rfl, rfl⟩
      go_wp2_with fail
      refine (nanK_calls b w1).mono ?_
      rintro e w2 ⟨rfl, rfl⟩
      go_wp2_with fail
      go_ret
      exact ⟨rfl, rfl⟩
def orI (a b : Int) : Int := if a = 0 then b else a
set_option maxHeartbeats 1000000 in
theorem or_calls0 (g : Nat) (a b : Int) (w : World) (hg : w.heap[g]? = some (.cells #[.int .i64 a, .int .i64 b] 3 (0, 0))) : Calls Tryz.prog 113 #[.slice (some ⟨g, 0, none⟩) 2 2] w fun e w' => e = .returned (.int .i64 (if a = 0 then b else a)) ∧ w' = w := by
  have c := blk_cells hg
  clear hg
  by_cases ha : a = 0
  · subst ha
    rw [if_pos rfl]
    by_cases hb : b = 0
    · subst hb
      go_enter Tryz.func113, Tryz.ntmps113
      go_wp2_with fail
      refine wp_loop_rounds 3 ?_
      rw [rounds_succ]
      go_wp2
      rw [rounds_succ]
      go_wp2
      rw [rounds_succ]
      go_wp2
      go_ret
      exact ⟨rfl, rfl⟩
    · have hb2 : (b == 0) = false := by simpa using hb
      go_enter Tryz.func113, Tryz.ntmps113
      go_wp2_with fail
      refine wp_loop_rounds 2 ?_
      rw [rounds_succ]
      go_wp2
      rw [rounds_succ]
      go_wp2
      go_ret
      exact ⟨rfl, rfl⟩
  · rw [if_neg ha]
    have ha2 : (a == 0) = false := by simpa using ha
    go_enter Tryz.func113, Tryz.ntmps113
    go_wp2_with fail
    refine wp_loop_rounds 1 ?_
    rw [rounds_succ]
    go_wp2
    go_ret
    exact ⟨rfl, rfl⟩

theorem or_calls (g : Nat) (a b : Int) (w : World) (hg : w.heap[g]? = some (.cells #[.int .i64 a, .int .i64 b] 3 (0, 0))) : Calls Tryz.prog 113 #[.slice (some ⟨g, 0, none⟩) 2 2] w fun e w' => e = .returned (.int .i64 (orI a b)) ∧ w' = w := or_calls0 g a b w hg

/-- value.Cmp, of values at most so deep. -/
def CmpS (d : Nat) : Prop := ∀ (x y : Val) (la : Option Addr) (ln lc : Nat) (fa : Option Addr) (fn fc : Nat) (la2 : Option Addr) (ln2 lc2 : Nat) (fa2 : Option Addr) (fn2 fc2 : Nat) (ok : Nat → Prop) (w : World),
  (KV d).R w ok x [.int .i64 x.kind, .int .i64 x.int, .string x.text, .slice la ln lc, .slice fa fn fc] → (KV d).R w ok y [.int .i64 y.kind, .int .i64 y.int, .string y.text, .slice la2 ln2 lc2, .slice fa2 fn2 fc2] →
  Calls Tryz.prog 44 #[.agg #[.int .i64 x.kind, .int .i64 x.int, .string x.text, .slice la ln lc, .slice fa fn fc], .agg #[.int .i64 y.kind, .int .i64 y.int, .string y.text, .slice la2 ln2 lc2, .slice fa2 fn2 fc2]] w fun e w' => e = .returned (.int .i64 (cmpD d x y)) ∧ Below w.heap.size w w'
theorem CmpS0 : CmpS 0 := fun _ _ _ _ _ _ _ _ _ _ _ _ _ _ _ _ h => h.elim

set_option maxRecDepth 100000 in
set_option maxHeartbeats 2000000 in
theorem cmpl_calls (d : Nat) (ih : CmpS d) (A : Option Addr) (n c : Nat) (A2 : Option Addr) (n2 c2 : Nat) (xs ys : List Val) (ok : Nat → Prop) (w : World) (hx : Row (KV d) w ok A n c xs) (hy : Row (KV d) w ok A2 n2 c2 ys) :
    Calls Tryz.prog 75 #[.slice A n c, .slice A2 n2 c2, .func (.func 44) #[] #[]] w fun e w' => e = .returned (.int .i64 (cmpList (cmpD d) xs ys)) ∧ Below w.heap.size w w' := by
  have hxl := hx.length
  have hyl := hy.length
  have hxc := hx.cap
  have hyc := hy.cap
  have HX := Ap.of hx
  have HY := Ap.of hy
  have IH := Ap.of ih
  clear hx hy ih
  go_enter Tryz.func75, Tryz.ntmps75
  go_wp2_with fail
  go_loopw [13] (fun vi wr => ∃ k : Nat, k ≤ n ∧ vi = .int .i64 k ∧ Ap (k ≤ n2) ∧ Ap (cmpList (cmpD d) xs ys = cmpList (cmpD d) (xs.drop k) (ys.drop k)) ∧ Ap (Below w.heap.size w wr)) (fun vi _ => n - (intOf vi).toNat)
  case atStart => exact ⟨0, Nat.zero_le _, rfl, Ap.of (Nat.zero_le _), Ap.of rfl, Ap.of (Below.refl _ _)⟩
  case round =>
    obtain ⟨k, hk, rfl, HK2, HC, BL⟩ := hrel
    by_cases hlt : k < n
    · obtain ⟨d', rfl⟩ : ∃ d', d = d' + 1 := by
        cases d with
        | zero => obtain ⟨_, _, _, _, _, _, h, _⟩ := HX.out.elem hlt; exact h.elim
        | succ d => exact ⟨d, rfl⟩
      obtain ⟨g, off, x, la, ln, lc, fa, fn, fc, rfl, hxk, hrx, c1, c2, c3, c4, c5⟩ := val_cells (HX.out.bound.below BL.out) hlt
      have hxd : xs.drop k = x :: xs.drop (k + 1) := by
        have hkl : k < xs.length := by omega
        rw [List.drop_eq_getElem_cons hkl]
        rw [List.getElem?_eq_getElem hkl] at hxk
        injection hxk with hxk
        rw [hxk]
      have HXD := Ap.of hxd
      have HRX := Ap.of hrx
      clear hxd hrx hxk
      by_cases hlt2 : k < n2
      · obtain ⟨g2, off2, y, la2, ln2, lc2, fa2, fn2, fc2, rfl, hyk, hry, e1, e2, e3, e4, e5⟩ := val_cells (HY.out.bound.below BL.out) hlt2
        have hyd : ys.drop k = y :: ys.drop (k + 1) := by
          have hkl : k < ys.length := by omega
          rw [List.drop_eq_getElem_cons hkl]
          rw [List.getElem?_eq_getElem hkl] at hyk
          injection hyk with hyk
          rw [hyk]
        have hst := HC.out
        rw [HXD.out, hyd] at hst
        rw [cmpList_cons] at hst
        have HST := Ap.of hst
        have l1 := World.block_lt_of_cell? wr _ c1
        have l2 := World.block_lt_of_cell? wr _ e1
        have HRY := Ap.of hry
        have hcall := fun W (hW : Below wr.heap.size wr W) => IH.out x y la ln lc fa fn fc la2 ln2 lc2 fa2 fn2 fc2 _ W (Knd.below HRX.out hW) (Knd.below HRY.out hW)
        have HCALL := Ap.of hcall
        clear hyd hry hyk hst hcall HC
        generalize cmpD (d' + 1) x y = z at *
        generalize x.int = xi at *
        generalize x.kind = xk at *
        generalize x.text = xt at *
        generalize y.int = yi at *
        generalize y.kind = yk at *
        generalize y.text = yt at *
        by_cases hz : z = 0
        · subst hz
          go_wp2_with fail
          refine (HCALL.out _ (bel_step (bel_alloc _ _) (bel_alloc _ _))).mono ?_
          rintro e w3 ⟨rfl, hb⟩
          go_wp2_with fail
          go_roundw
          case rel => exact ⟨k + 1, by omega, by go_num, Ap.of (by omega), Ap.of (by have := HST.out; rw [if_pos True.intro] at this; exact this), Ap.of (bel_stepB (bel_stepB (bel_stepB BL.out BL.out.size (bel_alloc _ _)) (by have := BL.out.size; simp; omega) (bel_alloc _ _)) (by have := BL.out.size; simp; omega) hb)⟩
          case measure => simp [intOf]; omega
        · have hz2 : (z == 0) = false := by simpa using hz
          go_wp2_with fail
          refine (HCALL.out _ (bel_step (bel_alloc _ _) (bel_alloc _ _))).mono ?_
          rintro e w3 ⟨rfl, hb⟩
          go_wp2_with fail
          go_ret
          exact ⟨by have := HST.out; rw [if_neg hz] at this; rw [this]; rfl, bel_stepB (bel_stepB (bel_stepB BL.out BL.out.size (bel_alloc _ _)) (by have := BL.out.size; simp; omega) (bel_alloc _ _)) (by have := BL.out.size; simp; omega) hb⟩
      · have hst := HC.out
        have hyd : ys.drop k = [] := List.drop_eq_nil_of_le (by omega)
        rw [HXD.out, hyd] at hst
        have HST := Ap.of (show cmpList (cmpD (d' + 1)) xs ys = 1 from hst)
        clear hst hyd HC
        go_wp2_with fail
        go_ret
        exact ⟨by rw [HST.out]; rfl, bel_stepB BL.out BL.out.size (bel_alloc _ _)⟩
    · obtain rfl : k = n := by omega
      have hxd : xs.drop k = [] := List.drop_eq_nil_of_le (by omega)
      have hst := HC.out
      rw [hxd] at hst
      clear HC hxd
      by_cases hlt2 : k < n2
      · have hyd : ∃ y, ys.drop k = y :: ys.drop (k + 1) := ⟨_, List.drop_eq_getElem_cons (by omega)⟩
        obtain ⟨y, hyd⟩ := hyd
        rw [hyd] at hst
        have HST := Ap.of (show cmpList (cmpD d) xs ys = -1 from hst)
        clear hst hyd
        go_wp2_with fail
        go_ret
        exact ⟨by rw [HST.out]; rfl, BL.out⟩
      · have hyd : ys.drop k = [] := List.drop_eq_nil_of_le (by omega)
        rw [hyd] at hst
        have HST := Ap.of (show cmpList (cmpD d) xs ys = 0 from hst)
        clear hst hyd
        go_wp2_with fail
        go_ret
        exact ⟨by rw [HST.out]; rfl, BL.out⟩


/-- Two fields in new memory. -/
def TwoF (w : World) (nm : ByteArray) (xk xi : Int) (xt : ByteArray) (l f : Value) (nm2 : ByteArray) (yk yi : Int) (yt : ByteArray) (l2 f2 : Value) (W : World) : Prop :=
  Below w.heap.size w W ∧ W.cell? ⟨w.heap.size, 0, none⟩ = some (.string nm) ∧ W.cell? ⟨w.heap.size, 1, none⟩ = some (.int .i64 xk) ∧ W.cell? ⟨w.heap.size, 2, none⟩ = some (.int .i64 xi) ∧ W.cell? ⟨w.heap.size, 3, none⟩ = some (.string xt) ∧ W.cell? ⟨w.heap.size, 4, none⟩ = some l ∧ W.cell? ⟨w.heap.size, 5, none⟩ = some f ∧
      W.cell? ⟨w.heap.size + 1, 0, none⟩ = some (.string nm2) ∧ W.cell? ⟨w.heap.size + 1, 1, none⟩ = some (.int .i64 yk) ∧ W.cell? ⟨w.heap.size + 1, 2, none⟩ = some (.int .i64 yi) ∧ W.cell? ⟨w.heap.size + 1, 3, none⟩ = some (.string yt) ∧ W.cell? ⟨w.heap.size + 1, 4, none⟩ = some l2 ∧ W.cell? ⟨w.heap.size + 1, 5, none⟩ = some f2
theorem TwoF.bel {w : World} {nm : ByteArray} {xk xi : Int} {xt : ByteArray} {l f : Value} {nm2 : ByteArray} {yk yi : Int} {yt : ByteArray} {l2 f2 : Value} {W : World} (h : TwoF w nm xk xi xt l f nm2 yk yi yt l2 f2 W) : Below w.heap.size w W := h.1
theorem TwoF.below {w : World} {nm : ByteArray} {xk xi : Int} {xt : ByteArray} {l f : Value} {nm2 : ByteArray} {yk yi : Int} {yt : ByteArray} {l2 f2 : Value} {W W2 : World} (h : TwoF w nm xk xi xt l f nm2 yk yi yt l2 f2 W) (hb : Below W.heap.size W W2) : TwoF w nm xk xi xt l f nm2 yk yi yt l2 f2 W2 := by
  obtain ⟨h0, a0, a1, a2, a3, a4, a5, b0, b1, b2, b3, b4, b5⟩ := h
  have k : ∀ {a : Addr} {v : Value}, W.cell? a = some v → W2.cell? a = some v := fun {a v} e => (hb.cell (World.block_lt_of_cell? W _ e)).trans e
  exact ⟨bel_stepB h0 h0.size hb, k a0, k a1, k a2, k a3, k a4, k a5, k b0, k b1, k b2, k b3, k b4, k b5⟩
theorem TwoF.start (w : World) (nm : ByteArray) (xk xi : Int) (xt : ByteArray) (l f : Value) (nm2 : ByteArray) (yk yi : Int) (yt : ByteArray) (l2 f2 : Value) : TwoF w nm xk xi xt l f nm2 yk yi yt l2 f2 ((w.alloc (.cells #[.string nm, .int .i64 xk, .int .i64 xi, .string xt, l, f] 37)).alloc (.cells #[.string nm2, .int .i64 yk, .int .i64 yi, .string yt, l2, f2] 37)).drew := by
  have h1 := blk_cells (blk_draw (blk_old (o' := .cells #[.string nm2, .int .i64 yk, .int .i64 yi, .string yt, l2, f2] 37) (blk_new (w := w) (o := .cells #[.string nm, .int .i64 xk, .int .i64 xi, .string xt, l, f] 37) rfl)))
  have h2 := blk_cells (blk_draw (blk_new (w := w.alloc (.cells #[.string nm, .int .i64 xk, .int .i64 xi, .string xt, l, f] 37)) (k := w.heap.size + 1) (o := .cells #[.string nm2, .int .i64 yk, .int .i64 yi, .string yt, l2, f2] 37) (by simp)))
  exact ⟨(bel_step (bel_alloc _ _) (bel_alloc _ _)).drew, h1 0, h1 1, h1 2, h1 3, h1 4, h1 5, h2 0, h2 1, h2 2, h2 3, h2 4, h2 5⟩
set_option maxRecDepth 100000 in
set_option maxHeartbeats 2000000 in
theorem byf_calls (d : Nat) (ih : CmpS d) (nm nm2 : ByteArray) (x y : Val) (la : Option Addr) (ln lc : Nat) (fa : Option Addr) (fn fc : Nat) (la2 : Option Addr) (ln2 lc2 : Nat) (fa2 : Option Addr) (fn2 fc2 : Nat) (ok : Nat → Prop) (w : World)
    (hx : (KV d).R w ok x [.int .i64 x.kind, .int .i64 x.int, .string x.text, .slice la ln lc, .slice fa fn fc]) (hy : (KV d).R w ok y [.int .i64 y.kind, .int .i64 y.int, .string y.text, .slice la2 ln2 lc2, .slice fa2 fn2 fc2]) :
    Calls Tryz.prog 77 #[.agg #[.string nm, .int .i64 x.kind, .int .i64 x.int, .string x.text, .slice la ln lc, .slice fa fn fc], .agg #[.string nm2, .int .i64 y.kind, .int .i64 y.int, .string y.text, .slice la2 ln2 lc2, .slice fa2 fn2 fc2]] w fun e w' => e = .returned (.int .i64 (cmpF (cmpD d) (nm, x) (nm2, y))) ∧ Below w.heap.size w w' := by
  have HX := Ap.of hx
  have HY := Ap.of hy
  have hcall := fun W (hW : Below w.heap.size w W) => ih x y la ln lc fa fn fc la2 ln2 lc2 fa2 fn2 fc2 _ W (Knd.below hx hW) (Knd.below hy hW)
  have HC := Ap.of hcall
  have hst := Tryz.strings_Compare nm nm2
  have hf : cmpF (cmpD d) (nm, x) (nm2, y) = orI (cmpB nm nm2) (cmpD d x y) := rfl
  rw [hf]
  rw [show Lib.compareBytes nm.data.toList nm2.data.toList = cmpB nm nm2 from rfl] at hst
  have HS := Ap.of hst
  clear hx hy hcall hst ih hf
  generalize cmpB nm nm2 = z at *
  generalize cmpD d x y = z2 at *
  generalize x.int = xi at *
  generalize x.kind = xk at *
  generalize x.text = xt at *
  generalize y.int = yi at *
  generalize y.kind = yk at *
  generalize y.text = yt at *
  go_enter Tryz.func77, Tryz.ntmps77
  go_wp2_with fail
  go_region_held3 (fun W => Below w.heap.size w W ∧ W.cell? ⟨w.heap.size, 0, none⟩ = some (.string nm) ∧ W.cell? ⟨w.heap.size, 1, none⟩ = some (.int .i64 xk) ∧ W.cell? ⟨w.heap.size, 2, none⟩ = some (.int .i64 xi) ∧ W.cell? ⟨w.heap.size, 3, none⟩ = some (.string xt) ∧ W.cell? ⟨w.heap.size, 4, none⟩ = some (.slice la ln lc) ∧ W.cell? ⟨w.heap.size, 5, none⟩ = some (.slice fa fn fc) ∧
      W.cell? ⟨w.heap.size + 1, 0, none⟩ = some (.string nm2) ∧ W.cell? ⟨w.heap.size + 1, 1, none⟩ = some (.int .i64 yk) ∧ W.cell? ⟨w.heap.size + 1, 2, none⟩ = some (.int .i64 yi) ∧ W.cell? ⟨w.heap.size + 1, 3, none⟩ = some (.string yt) ∧ W.cell? ⟨w.heap.size + 1, 4, none⟩ = some (.slice la2 ln2 lc2) ∧ W.cell? ⟨w.heap.size + 1, 5, none⟩ = some (.slice fa2 fn2 fc2))
    (first
      | assumption
      | exact TwoF.start w _ _ _ _ _ _ _ _ _ _ _ _
      | exact TwoF.below (by assumption) hb
      | exact TwoF.below (by assumption) (bel_alloc _ _))
    (first
      | (go_at_call 74; refine (HS.out _).mono ?_; rintro e w1 ⟨rfl, rfl⟩)
      | (go_at_call 44; refine (HC.out _ (TwoF.bel (by assumption))).mono ?_; rintro e w1 ⟨rfl, hb⟩)
      | (go_at_call 113; refine (or_calls _ z z2 _ (blk_new rfl)).mono ?_; rintro e w1 ⟨rfl, rfl⟩))
  rename_i hHeld
  go_wp2_with fail
  go_ret
  exact ⟨rfl, TwoF.bel hHeld⟩

set_option maxRecDepth 100000 in
set_option maxHeartbeats 2000000 in
theorem cmpf_calls (d : Nat) (ih : CmpS d) (A : Option Addr) (n c : Nat) (A2 : Option Addr) (n2 c2 : Nat) (xs ys : List Fld) (ok : Nat → Prop) (w : World) (hx : Row (KFld (KV d)) w ok A n c xs) (hy : Row (KFld (KV d)) w ok A2 n2 c2 ys) :
    Calls Tryz.prog 76 #[.slice A n c, .slice A2 n2 c2, .func (.func 77) #[] #[]] w fun e w' => e = .returned (.int .i64 (cmpList (cmpF (cmpD d)) xs ys)) ∧ Below w.heap.size w w' := by
  have hxl := hx.length
  have hyl := hy.length
  have hxc := hx.cap
  have hyc := hy.cap
  have HX := Ap.of hx
  have HY := Ap.of hy
  have IH := Ap.of ih
  clear hx hy ih
  go_enter Tryz.func76, Tryz.ntmps76
  go_wp2_with fail
  go_loopw [13] (fun vi wr => ∃ k : Nat, k ≤ n ∧ vi = .int .i64 k ∧ Ap (k ≤ n2) ∧ Ap (cmpList (cmpF (cmpD d)) xs ys = cmpList (cmpF (cmpD d)) (xs.drop k) (ys.drop k)) ∧ Ap (Below w.heap.size w wr)) (fun vi _ => n - (intOf vi).toNat)
  case atStart => exact ⟨0, Nat.zero_le _, rfl, Ap.of (Nat.zero_le _), Ap.of rfl, Ap.of (Below.refl _ _)⟩
  case round =>
    obtain ⟨k, hk, rfl, HK2, HC, BL⟩ := hrel
    by_cases hlt : k < n
    · obtain ⟨d', rfl⟩ : ∃ d', d = d' + 1 := by
        cases d with
        | zero => obtain ⟨_, _, _, _, _, _, h, _⟩ := HX.out.elem hlt; obtain ⟨_, _, _, h⟩ := h; exact h.elim
        | succ d => exact ⟨d, rfl⟩
      obtain ⟨g, off, nm, x, la, ln, lc, fa, fn, fc, rfl, hxk, hnm, hrx, c0, c1, c2, c3, c4, c5⟩ := fld_cells (HX.out.bound.below BL.out) hlt
      have hxd : xs.drop k = (nm, x) :: xs.drop (k + 1) := by
        have hkl : k < xs.length := by omega
        rw [List.drop_eq_getElem_cons hkl]
        rw [List.getElem?_eq_getElem hkl] at hxk
        injection hxk with hxk
        rw [hxk]
      have HXD := Ap.of hxd
      have HRX := Ap.of hrx
      have HN1 := Ap.of hnm
      clear hxd hrx hxk hnm
      by_cases hlt2 : k < n2
      · obtain ⟨g2, off2, nm2, y, la2, ln2, lc2, fa2, fn2, fc2, rfl, hyk, hnm2, hry, e0, e1, e2, e3, e4, e5⟩ := fld_cells (HY.out.bound.below BL.out) hlt2
        have hyd : ys.drop k = (nm2, y) :: ys.drop (k + 1) := by
          have hkl : k < ys.length := by omega
          rw [List.drop_eq_getElem_cons hkl]
          rw [List.getElem?_eq_getElem hkl] at hyk
          injection hyk with hyk
          rw [hyk]
        have hst := HC.out
        rw [HXD.out, hyd] at hst
        rw [cmpList_cons] at hst
        have HST := Ap.of hst
        have l1 := World.block_lt_of_cell? wr _ c1
        have l2 := World.block_lt_of_cell? wr _ e1
        have HRY := Ap.of hry
        have hcall := fun W (hW : Below wr.heap.size wr W) => byf_calls _ IH.out nm nm2 x y la ln lc fa fn fc la2 ln2 lc2 fa2 fn2 fc2 _ W (Knd.below HRX.out hW) (Knd.below HRY.out hW)
        have HCALL := Ap.of hcall
        clear hyd hry hyk hst hcall HC hnm2
        generalize cmpF (cmpD (d' + 1)) (nm, x) (nm2, y) = z at *
        generalize x.int = xi at *
        generalize x.kind = xk at *
        generalize x.text = xt at *
        generalize y.int = yi at *
        generalize y.kind = yk at *
        generalize y.text = yt at *
        by_cases hz : z = 0
        · subst hz
          go_wp2_with fail
          refine (HCALL.out _ (bel_step (bel_alloc _ _) (bel_alloc _ _))).mono ?_
          rintro e w3 ⟨rfl, hb⟩
          go_wp2_with fail
          go_roundw
          case rel => exact ⟨k + 1, by omega, by go_num, Ap.of (by omega), Ap.of (by have := HST.out; rw [if_pos True.intro] at this; exact this), Ap.of (bel_stepB (bel_stepB (bel_stepB BL.out BL.out.size (bel_alloc _ _)) (by have := BL.out.size; simp; omega) (bel_alloc _ _)) (by have := BL.out.size; simp; omega) hb)⟩
          case measure => simp [intOf]; omega
        · have hz2 : (z == 0) = false := by simpa using hz
          go_wp2_with fail
          refine (HCALL.out _ (bel_step (bel_alloc _ _) (bel_alloc _ _))).mono ?_
          rintro e w3 ⟨rfl, hb⟩
          go_wp2_with fail
          go_ret
          exact ⟨by have := HST.out; rw [if_neg hz] at this; rw [this]; rfl, bel_stepB (bel_stepB (bel_stepB BL.out BL.out.size (bel_alloc _ _)) (by have := BL.out.size; simp; omega) (bel_alloc _ _)) (by have := BL.out.size; simp; omega) hb⟩
      · have hst := HC.out
        have hyd : ys.drop k = [] := List.drop_eq_nil_of_le (by omega)
        rw [HXD.out, hyd] at hst
        have HST := Ap.of (show cmpList (cmpF (cmpD (d' + 1))) xs ys = 1 from hst)
        clear hst hyd HC
        go_wp2_with fail
        go_ret
        exact ⟨by rw [HST.out]; rfl, bel_stepB BL.out BL.out.size (bel_alloc _ _)⟩
    · obtain rfl : k = n := by omega
      have hxd : xs.drop k = [] := List.drop_eq_nil_of_le (by omega)
      have hst := HC.out
      rw [hxd] at hst
      clear HC hxd
      by_cases hlt2 : k < n2
      · have hyd : ∃ y, ys.drop k = y :: ys.drop (k + 1) := ⟨_, List.drop_eq_getElem_cons (by omega)⟩
        obtain ⟨y, hyd⟩ := hyd
        rw [hyd] at hst
        have HST := Ap.of (show cmpList (cmpF (cmpD d)) xs ys = -1 from hst)
        clear hst hyd
        go_wp2_with fail
        go_ret
        exact ⟨by rw [HST.out]; rfl, BL.out⟩
      · have hyd : ys.drop k = [] := List.drop_eq_nil_of_le (by omega)
        rw [hyd] at hst
        have HST := Ap.of (show cmpList (cmpF (cmpD d)) xs ys = 0 from hst)
        clear hst hyd
        go_wp2_with fail
        go_ret
        exact ⟨by rw [HST.out]; rfl, BL.out⟩

set_option maxRecDepth 100000 in
set_option maxHeartbeats 2000000 in
theorem cmp_step (d : Nat) (ih : CmpS d) : CmpS (d + 1) := by
  intro x y la ln lc fa fn fc la2 ln2 lc2 fa2 fn2 fc2 ok w hx hy
  obtain ⟨_, _, _, hxl, hxf⟩ := KV_parts hx
  obtain ⟨_, _, _, hyl, hyf⟩ := KV_parts hy
  have hl := fun W (hW : Below w.heap.size w W) => cmpl_calls d ih la ln lc la2 ln2 lc2 x.list y.list ok W (hxl.below hW) (hyl.below hW)
  have hf := fun W (hW : Below w.heap.size w W) => cmpf_calls d ih fa fn fc fa2 fn2 fc2 x.fields y.fields ok W (hxf.below hW) (hyf.below hW)
  have HL := Ap.of hl
  have HF := Ap.of hf
  have hs := Tryz.strings_Compare x.text y.text
  rw [show Lib.compareBytes x.text.data.toList y.text.data.toList = cmpB x.text y.text from rfl] at hs
  have HS := Ap.of hs
  rw [cmpD]
  clear hx hy hxl hxf hyl hyf hl hf hs ih
  generalize x.int = xi at *
  generalize x.kind = xk at *
  generalize x.text = xt at *
  generalize y.int = yi at *
  generalize y.kind = yk at *
  generalize y.text = yt at *
  by_cases hk : xk = yk
  · subst hk
    rw [if_pos rfl]
    by_cases h12 : xk = 1 ∨ xk = 2
    · rw [if_pos h12]
      rcases h12 with rfl | rfl
      all_goals
        go_enter Tryz.func44, Tryz.ntmps44
        go_wp2_with fail
        refine (compI_calls xi yi _).mono ?_
        rintro e w1 ⟨rfl, rfl⟩
        go_wp2_with fail
        go_ret
        exact ⟨rfl, bel_step (bel_alloc _ _) (bel_alloc _ _)⟩
    · rw [if_neg h12]
      by_cases h3 : xk = 3
      · subst h3
        rw [if_pos rfl]
        generalize cmpB xt yt = z at *
        go_enter Tryz.func44, Tryz.ntmps44
        go_wp2_with fail
        refine (HS.out _).mono ?_
        rintro e w1 ⟨rfl, rfl⟩
        go_wp2_with fail
        go_ret
        exact ⟨rfl, bel_step (bel_alloc _ _) (bel_alloc _ _)⟩
      · rw [if_neg h3]
        by_cases h4 : xk = 4
        · subst h4
          rw [if_pos rfl]
          generalize cmpList (cmpD d) x.list y.list = z at *
          go_enter Tryz.func44, Tryz.ntmps44
          go_wp2_with fail
          refine (HL.out _ (bel_step (bel_alloc _ _) (bel_alloc _ _))).mono ?_
          rintro e w1 ⟨rfl, hb⟩
          have HB := Ap.of hb
          clear hb
          go_wp2_with fail
          go_ret
          exact ⟨rfl, bel_step (bel_step (bel_alloc _ _) (bel_alloc _ _)) HB.out⟩
        · rw [if_neg h4]
          by_cases h5 : xk = 5
          · subst h5
            rw [if_pos rfl]
            generalize cmpList (cmpF (cmpD d)) x.fields y.fields = z at *
            go_enter Tryz.func44, Tryz.ntmps44
            go_wp2_with fail
            refine (HF.out _ (bel_step (bel_alloc _ _) (bel_alloc _ _))).mono ?_
            rintro e w1 ⟨rfl, hb⟩
            have HB := Ap.of hb
            clear hb
            go_wp2_with fail
            go_ret
            exact ⟨rfl, bel_step (bel_step (bel_alloc _ _) (bel_alloc _ _)) HB.out⟩
          · rw [if_neg h5]
            have t1 : (xk == 1) = false := by simp; omega
            have t2 : (xk == 2) = false := by simp; omega
            have t3 : (xk == 3) = false := by simp; omega
            have t4 : (xk == 4) = false := by simp; omega
            have t5 : (xk == 5) = false := by simp; omega
            clear h12 h3 h4 h5
            go_enter Tryz.func44, Tryz.ntmps44
            go_wp2_with fail
            go_ret
            exact ⟨rfl, bel_step (bel_alloc _ _) (bel_alloc _ _)⟩
  · rw [if_neg hk]
    have hk2 : (xk == yk) = false := by simpa using hk
    clear hk
    go_enter Tryz.func44, Tryz.ntmps44
    go_wp2_with fail
    refine (compK_calls xk yk _).mono ?_
    rintro e w1 ⟨rfl, rfl⟩
    go_wp2_with fail
    go_ret
    exact ⟨rfl, bel_step (bel_alloc _ _) (bel_alloc _ _)⟩
theorem cmp_calls : ∀ d, CmpS d
  | 0 => CmpS0
  | d + 1 => cmp_step d (cmp_calls d)
set_option maxRecDepth 100000 in
set_option maxHeartbeats 1000000 in
theorem same_calls (d : Nat) (x y : Val) (la : Option Addr) (ln lc : Nat) (fa : Option Addr) (fn fc : Nat) (la2 : Option Addr) (ln2 lc2 : Nat) (fa2 : Option Addr) (fn2 fc2 : Nat) (ok : Nat → Prop) (w : World)
  (hx : (KV d).R w ok x [.int .i64 x.kind, .int .i64 x.int, .string x.text, .slice la ln lc, .slice fa fn fc]) (hy : (KV d).R w ok y [.int .i64 y.kind, .int .i64 y.int, .string y.text, .slice la2 ln2 lc2, .slice fa2 fn2 fc2]) :
  Calls Tryz.prog 20 #[.agg #[.int .i64 x.kind, .int .i64 x.int, .string x.text, .slice la ln lc, .slice fa fn fc], .agg #[.int .i64 y.kind, .int .i64 y.int, .string y.text, .slice la2 ln2 lc2, .slice fa2 fn2 fc2]] w fun e w' => e = .returned (.bool (cmpD d x y == 0)) ∧ Below w.heap.size w w' := by
  have hc := fun W (hW : Below w.heap.size w W) => cmp_calls d x y la ln lc fa fn fc la2 ln2 lc2 fa2 fn2 fc2 ok W (Knd.below hx hW) (Knd.below hy hW)
  have HC := Ap.of hc
  clear hc hx hy
  generalize cmpD d x y = z at *
  generalize x.int = xi at *
  generalize x.kind = xk at *
  generalize x.text = xt at *
  generalize y.int = yi at *
  generalize y.kind = yk at *
  generalize y.text = yt at *
  go_enter Tryz.func20, Tryz.ntmps20
  go_wp2_with fail
  refine (HC.out _ (bel_step (bel_alloc _ _) (bel_alloc _ _))).mono ?_
  rintro e w1 ⟨rfl, hb⟩
  have HB := Ap.of hb
  clear hb
  go_wp2_with fail
  go_ret
  exact ⟨rfl, bel_step (bel_step (bel_alloc _ _) (bel_alloc _ _)) HB.out⟩
end Go.Proofs.YtlomieopppndeaaGreatDoor
