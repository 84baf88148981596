/- PathCuts' walk. -/
import Derived.Test.YtlomieopppndeaaGreatDoorCutWalk
import Derived.Test.YtlomieopppndeaaGreatDoorRowTake
namespace Go.Proofs.YtlomieopppndeaaGreatDoor
open Go.RowKit

set_option maxRecDepth 100000 in
set_option maxHeartbeats 4000000 in
theorem cuts_calls (A0 : Option Addr) (n0 c0 : Nat) (A1 : Option Addr) (n1 c1 : Nat) (w : World) (b0 : Bs w (fun k => k < w.heap.size) A0 n0 c0) (b1 : Bs w (fun k => k < w.heap.size) A1 n1 c1) (G : StG w) :
    Calls Tryz.prog 14 #[.slice A0 n0 c0, .slice A1 n1 c1] w fun e w' => e = .returned (.bool true) ∧ Below w.heap.size w w' := by
  have GG := Ap.of G
  have B0 := Ap.of b0
  have B1 := Ap.of b1
  clear G b0 b1
  go_enter Tryz.func14, Tryz.ntmps14
  go_wp2_with fail
  refine (awake_calls w GG.out.path).mono ?_
  rintro e w1 ⟨rfl, hb⟩
  have HB1 := Ap.of hb
  have G1 := Ap.of (GG.out.below hb)
  clear hb
  go_wp2_with fail
  refine (of_calls A0 n0 c0 w1 _ (fun k hk => Nat.lt_of_lt_of_le hk HB1.out.size) G1.out.laid (B0.out.below HB1.out)).mono ?_
  rintro e w2 ⟨x, la, ln, lc, fa, fn, fc, rfl, hx, hg, hb⟩
  have HX := Ap.of hx
  have HG := Ap.of hg
  have HB2 := Ap.of (bel_step HB1.out hb)
  have G2 := Ap.of (G1.out.below hb)
  clear hb hx hg
  go_wp2_with fail
  refine (way_calls A1 n1 c1 w2 _ (fun k hk => Nat.lt_of_lt_of_le hk HB2.out.size) (B1.out.below HB2.out)).mono ?_
  rintro e w3 ⟨A, n, c, l, rfl, hl, hn4, hw, hb⟩
  have HL := Ap.of (hl.mono (ok' := fun _ => True) (fun _ _ => trivial))
  have HX3 := Ap.of ((KV 4).mono (ok' := fun _ => True) (fun _ _ => trivial) (Knd.below HX.out hb))
  have HB3 := Ap.of (bel_step HB2.out hb)
  have G3 := Ap.of (G2.out.below hb)
  have HLN := Ap.of hl.length
  have hn4' : n ≤ 4 := hn4
  clear hb hl hw HX hn4
  have hcut := fun W (hW : Below w3.heap.size w3 W) => cut_all l.length 3 x l 4 la ln lc fa fn fc A n c (fun _ => True) W rfl (Few.of_good HG.out) (by decide) (G3.out.below hW).path.fin (HL.out.below hW) (KV_le (by omega) _ _ _ _ (Knd.below HX3.out hW))
  have HCUT := Ap.of hcut
  have hlf := fun W (hW : Below w3.heap.size w3 W) => lfind_calls 2 x la ln lc fa fn fc A n c l (fun _ => True) W (Few.of_good HG.out) (HL.out.below hW) (Knd.below HX3.out hW)
  have HLF := Ap.of hlf
  have hlf2 := fun W (hW : Below w3.heap.size w3 W) => lfind_calls 2 x la ln lc fa fn fc A (n - 1) c (l.take (n - 1)) (fun _ => True) W (Few.of_good HG.out) ((HL.out.below hW).take (Nat.sub_le n 1)) (Knd.below HX3.out hW)
  have HLF2 := Ap.of hlf2
  have bx3 := blk_new (w := w3) (o := .cells #[.int .i64 x.kind, .int .i64 x.int, .string x.text, .slice la ln lc, .slice fa fn fc] 28) rfl
  have HBX := Ap.of bx3
  clear hcut hlf hlf2 bx3
  go_wp2_with fail
  refine (HCUT.out _ (bel_alloc _ _)).mono ?_
  generalize hoc : x.cut l = oc at *
  have HOC := Ap.of hoc
  clear hoc HCUT
  rintro e w4 ⟨y, l5, m5, c5, g5, f5, h5, rfl, hy, hr, hb⟩
  obtain ⟨D, hD⟩ : ∃ D, 3 + l.length + 1 = D + 2 := ⟨l.length + 2, by omega⟩
  rw [hD] at hr
  have HDD := Ap.of hD
  have HY := Ap.of hy
  have HR := Ap.of ((KV (D + 2)).mono (ok' := fun _ => True) (fun _ _ => trivial) hr)
  have HD := Ap.of (show 4 ≤ D + 2 by omega)
  have HB34 := Ap.of (bel_step (bel_alloc w3 (.cells #[.int .i64 x.kind, .int .i64 x.int, .string x.text, .slice la ln lc, .slice fa fn fc] 28)) hb)
  have bx4 := blk_bel HBX.out hb
  have HBX4 := Ap.of bx4
  have dx := blk_cells bx4
  have lx := blk_lt bx4
  clear hD hy hr hb bx4 HBX
  go_wp2_with fail
  refine (HLF.out _ (bel_step HB34.out (bel_alloc _ _))).mono ?_
  generalize hof : x.find l = oz at *
  have HOF := Ap.of hof
  clear hof HLF
  rintro e w5 ⟨z, l6, m6, c6, g6, f6, h6, rfl, hz, hr, hb⟩
  have HZ := Ap.of hz
  have HRZ := Ap.of hr
  have HB35 := Ap.of (bel_step (bel_step HB34.out (bel_alloc w4 (.cells #[.int .i64 y.kind, .int .i64 y.int, .string y.text, .slice l5 m5 c5, .slice g5 f5 h5] 28))) hb)
  have HB45 := Ap.of (bel_step (bel_alloc w4 (.cells #[.int .i64 y.kind, .int .i64 y.int, .string y.text, .slice l5 m5 c5, .slice g5 f5 h5] 28)) hb)
  have HBX5 := Ap.of (blk_bel HBX4.out HB45.out)
  have HBY5 := Ap.of (blk_bel (blk_new (w := w4) (k := w4.heap.size) (o := .cells #[.int .i64 y.kind, .int .i64 y.int, .string y.text, .slice l5 m5 c5, .slice g5 f5 h5] 28) rfl) hb)
  clear hz hr hb dx lx HBX4
  have hcs := cut_some l x
  rw [HOC.out, HOF.out] at hcs
  have HCS := Ap.of hcs
  clear hcs
  by_cases hn0 : n = 0
  · -- no parts: nothing is cut
    obtain rfl : l = [] := List.length_eq_zero_iff.1 (HLN.out.trans hn0)
    have hpos : decide (0 < (n : Int)) = false := by simp; omega
    have hpos' : decide (0 < n) = false := by simp; omega
    have hyx : y = x := by rw [HY.out, ← HOC.out]; rfl
    have h8 : oc.isSome = false := by rw [← HOC.out]; rfl
    have h10 : oz.isSome = true := by rw [← HOF.out]; rfl
    have dx := blk_cells HBX5.out
    have lx := blk_lt HBX5.out
    have dy := blk_cells HBY5.out
    have ly := blk_lt HBY5.out
    have hsame := fun W (hW : Below w5.heap.size w5 W) => same_calls (D + 2) y x l5 m5 c5 g5 f5 h5 la ln lc fa fn fc (fun _ => True) W (Knd.below (Knd.below HR.out HB45.out) hW) (KV_le HD.out _ _ _ _ (Knd.below HX3.out (bel_step HB35.out hW)))
    rw [hyx, cmpD_self] at hsame
    have HS := Ap.of hsame
    clear hsame hn0 HY HCS
    subst hyx
    go_wp2_with fail
    refine (HS.out _ (bel_step (bel_alloc _ _) (bel_alloc _ _))).mono ?_
    rintro e w8 ⟨rfl, hb⟩
    go_wp2_with fail
    go_ret
    exact ⟨rfl, bel_step (bel_step (bel_step HB3.out HB35.out) (bel_step (bel_alloc _ _) (bel_alloc _ _))) hb⟩
  · have hpos : decide (0 < (n : Int)) = true := by simp; omega
    have hpos' : decide (0 < n) = true := by simp; omega
    go_wp2_with fail
    have hb57 := bel_step (bel_alloc w5 (.cells #[.int .i64 z.kind, .int .i64 z.int, .string z.text, .slice l6 m6 c6, .slice g6 f6 h6] 28)) (bel_alloc _ (.cells #[.int .i64 0, .int .i64 0, .string ⟨#[]⟩, .slice none 0 0, .slice none 0 0] 28))
    have HBW7 := Ap.of (blk_old (o' := .cells #[.int .i64 0, .int .i64 0, .string ⟨#[]⟩, .slice none 0 0, .slice none 0 0] 28) (blk_new (w := w5) (k := w5.heap.size) (o := .cells #[.int .i64 z.kind, .int .i64 z.int, .string z.text, .slice l6 m6 c6, .slice g6 f6 h6] 28) rfl))
    have HBF7 := Ap.of (blk_new (w := w5.alloc (.cells #[.int .i64 z.kind, .int .i64 z.int, .string z.text, .slice l6 m6 c6, .slice g6 f6 h6] 28)) (k := w5.heap.size + 1) (o := .cells #[.int .i64 0, .int .i64 0, .string ⟨#[]⟩, .slice none 0 0, .slice none 0 0] 28) (by simp))
    have HS7 := Ap.of (show ((w5.alloc (.cells #[.int .i64 z.kind, .int .i64 z.int, .string z.text, .slice l6 m6 c6, .slice g6 f6 h6] 28)).alloc (.cells #[.int .i64 0, .int .i64 0, .string ⟨#[]⟩, .slice none 0 0, .slice none 0 0] 28)).heap.size = w5.heap.size + 2 by simp)
    generalize (w5.alloc (.cells #[.int .i64 z.kind, .int .i64 z.int, .string z.text, .slice l6 m6 c6, .slice g6 f6 h6] 28)).alloc (.cells #[.int .i64 0, .int .i64 0, .string ⟨#[]⟩, .slice none 0 0, .slice none 0 0] 28) = w7 at *
    have HB57 := Ap.of hb57
    have HBX7 := Ap.of (blk_bel HBX5.out hb57)
    have HBY7 := Ap.of (blk_bel HBY5.out hb57)
    have HB37 := Ap.of (bel_step HB35.out hb57)
    have L3 := Ap.of (blk_lt HBX5.out)
    have L4 := Ap.of (blk_lt HBY5.out)
    clear hb57 HBX5 HBY5
    have hl0 : l ≠ [] := fun e => hn0 (by rw [← HLN.out, e]; rfl)
    have HL0 := Ap.of hl0
    have hto := strs_to HL.out (Nat.sub_le n 1) ((n : Int) - 1) (by omega)
    have hwr : IntKind.i64.wrap ((n : Int) - 1) = (n : Int) - 1 := by rw [IntKind.wrap_i64]; omega
    have hks : ∀ W, Only (fun j => j = w5.heap.size + 1) w7 W → GB (w5.heap.size + 1) 5 28 W → (Only (fun j => j = w5.heap.size + 1) w7 W ∧ GB (w5.heap.size + 1) 5 28 W ∧ W.cell? ⟨w3.heap.size, 0, none⟩ = some (.int .i64 x.kind) ∧ W.cell? ⟨w3.heap.size, 1, none⟩ = some (.int .i64 x.int) ∧ W.cell? ⟨w3.heap.size, 2, none⟩ = some (.string x.text) ∧ W.cell? ⟨w3.heap.size, 3, none⟩ = some (.slice la ln lc) ∧ W.cell? ⟨w3.heap.size, 4, none⟩ = some (.slice fa fn fc) ∧ W.cell? ⟨w5.heap.size + 1, 0, none⟩ = some (curCell W (w5.heap.size + 1) 0) ∧ W.cell? ⟨w5.heap.size + 1, 1, none⟩ = some (curCell W (w5.heap.size + 1) 1) ∧ W.cell? ⟨w5.heap.size + 1, 2, none⟩ = some (curCell W (w5.heap.size + 1) 2) ∧ W.cell? ⟨w5.heap.size + 1, 3, none⟩ = some (curCell W (w5.heap.size + 1) 3) ∧ W.cell? ⟨w5.heap.size + 1, 4, none⟩ = some (curCell W (w5.heap.size + 1) 4) ∧ W.frozen? ⟨w5.heap.size + 1, 0, none⟩ = false ∧ W.frozen? ⟨w5.heap.size + 1, 1, none⟩ = false ∧ W.frozen? ⟨w5.heap.size + 1, 2, none⟩ = false ∧ W.frozen? ⟨w5.heap.size + 1, 3, none⟩ = false ∧ W.frozen? ⟨w5.heap.size + 1, 4, none⟩ = false) := fun W ho hgb => by
      have hz := L3.out
      have e1 := blk_cells (blk_only HBX7.out ho (fun e => by omega))
      exact ⟨ho, hgb, e1 0, e1 1, e1 2, e1 3, e1 4, (hgb.cell (by omega)).1, (hgb.cell (by omega)).1, (hgb.cell (by omega)).1, (hgb.cell (by omega)).1, (hgb.cell (by omega)).1, (hgb.cell (by omega)).2, (hgb.cell (by omega)).2, (hgb.cell (by omega)).2, (hgb.cell (by omega)).2, (hgb.cell (by omega)).2⟩
    have KS11 := Ap.of hks
    have HGB := Ap.of (show GB (w5.heap.size + 1) 5 28 w7 from ⟨_, HBF7.out, rfl⟩)
    have HWO := Ap.of (show ∀ W, Only (fun j => j = w5.heap.size + 1) w7 W → Calls Tryz.prog 19 #[.agg #[.int .i64 x.kind, .int .i64 x.int, .string x.text, .slice la ln lc, .slice fa fn fc], .slice A (n - 1) c] W (FoundP 4 W (fun k => True ∧ k ≠ w5.heap.size + 1) (x.find (l.take (n - 1)))) from fun W ho =>
      lfind_calls 2 x la ln lc fa fn fc A (n - 1) c (l.take (n - 1)) (fun k => True ∧ k ≠ w5.heap.size + 1) W (Few.of_good HG.out) (Row.only (Row.mono (fun k hk => ⟨trivial, by have := hk.2; have := HB35.out.size; omega⟩) ((HL.out.bound.below HB37.out).take (Nat.sub_le n 1))) ho (fun k hk => hk.2))
        (Knd.only ((KV 4).mono (fun k hk => ⟨trivial, by have := hk.2; have := HB35.out.size; omega⟩) (Knd.below ((KV 4).bound HX3.out) HB37.out)) ho (fun k hk => hk.2)))
    clear hks HLF2 hn0 hl0
    go_region_held3 (fun W => Only (fun j => j = w5.heap.size + 1) w7 W ∧ GB (w5.heap.size + 1) 5 28 W ∧ W.cell? ⟨w3.heap.size, 0, none⟩ = some (.int .i64 x.kind) ∧ W.cell? ⟨w3.heap.size, 1, none⟩ = some (.int .i64 x.int) ∧ W.cell? ⟨w3.heap.size, 2, none⟩ = some (.string x.text) ∧ W.cell? ⟨w3.heap.size, 3, none⟩ = some (.slice la ln lc) ∧ W.cell? ⟨w3.heap.size, 4, none⟩ = some (.slice fa fn fc) ∧ W.cell? ⟨w5.heap.size + 1, 0, none⟩ = some (curCell W (w5.heap.size + 1) 0) ∧ W.cell? ⟨w5.heap.size + 1, 1, none⟩ = some (curCell W (w5.heap.size + 1) 1) ∧ W.cell? ⟨w5.heap.size + 1, 2, none⟩ = some (curCell W (w5.heap.size + 1) 2) ∧ W.cell? ⟨w5.heap.size + 1, 3, none⟩ = some (curCell W (w5.heap.size + 1) 3) ∧ W.cell? ⟨w5.heap.size + 1, 4, none⟩ = some (curCell W (w5.heap.size + 1) 4) ∧ W.frozen? ⟨w5.heap.size + 1, 0, none⟩ = false ∧ W.frozen? ⟨w5.heap.size + 1, 1, none⟩ = false ∧ W.frozen? ⟨w5.heap.size + 1, 2, none⟩ = false ∧ W.frozen? ⟨w5.heap.size + 1, 3, none⟩ = false ∧ W.frozen? ⟨w5.heap.size + 1, 4, none⟩ = false)
      (first
        | with_reducible assumption
        | (with_reducible (refine KS11.out _ ?_ ?_; apply Only.draw; exact Only.refl _ _; exact GB.draw HGB.out))
        | (with_reducible (refine KS11.out _ ?_ ?_; refine Only.bel ?_ hb3; exact And.left (by assumption); exact GB.bel (And.left (And.right (by assumption))) hb3))
        | (with_reducible (refine KS11.out _ ?_ ?_; refine Only.trans ?_ (only5 _ _ _ _ _ _ _) (fun _ h => .inl h); exact And.left (by assumption); refine gb_set50 ?_ (Nat.le_refl _) _ _ _ _ _; exact And.left (And.right (by assumption)))))
      (first
        | (go_at_call 19; refine (HWO.out _ (And.left (by assumption))).mono ?_; rintro e w8 ⟨u, l7, m7, c7, g7, f7, h7, rfl, hu, hr7, hb3⟩; have HU := Ap.of hu; clear hu hr7))
    have hs9 := only5 w8 (w5.heap.size + 1) (.int .i64 u.kind) (.int .i64 u.int) (.string u.text) (.slice l7 m7 c7) (.slice g7 f7 h7)
    have bf9 := blk_set5 (blk_bel (blk_draw HBF7.out) hb3) (.int .i64 u.kind) (.int .i64 u.int) (.string u.text) (.slice l7 m7 c7) (.slice g7 f7 h7)
    have HBX9 := Ap.of (blk_only (blk_bel (blk_draw HBX7.out) hb3) hs9 (fun e => by have := L3.out; omega))
    have HBY9 := Ap.of (blk_only (blk_bel (blk_draw HBY7.out) hb3) hs9 (fun e => by have := L4.out; omega))
    have HBW9 := Ap.of (blk_only (blk_bel (blk_draw HBW7.out) hb3) hs9 (fun e => by omega))
    have h79 : Below (w5.heap.size + 1) w7 ((((((w8.setCell ⟨w5.heap.size + 1, 0, none⟩ (.int .i64 u.kind)).setCell ⟨w5.heap.size + 1, 1, none⟩ (.int .i64 u.int)).setCell ⟨w5.heap.size + 1, 2, none⟩ (.string u.text)).setCell ⟨w5.heap.size + 1, 3, none⟩ (.slice l7 m7 c7)).setCell ⟨w5.heap.size + 1, 4, none⟩ (.slice g7 f7 h7))) := by
      have hz := HS7.out
      have h1 : Below w7.heap.size w7 w8 := bel_step (bel_draw w7) hb3
      exact bel_only (h1.mono (by omega)) (by have := h1.size; omega) hs9 (fun j he => by omega)
    have h59 : Below w5.heap.size w5 ((((((w8.setCell ⟨w5.heap.size + 1, 0, none⟩ (.int .i64 u.kind)).setCell ⟨w5.heap.size + 1, 1, none⟩ (.int .i64 u.int)).setCell ⟨w5.heap.size + 1, 2, none⟩ (.string u.text)).setCell ⟨w5.heap.size + 1, 3, none⟩ (.slice l7 m7 c7)).setCell ⟨w5.heap.size + 1, 4, none⟩ (.slice g7 f7 h7))) := HB57.out.trans (h79.mono (by omega))
    generalize (((((w8.setCell ⟨w5.heap.size + 1, 0, none⟩ (.int .i64 u.kind)).setCell ⟨w5.heap.size + 1, 1, none⟩ (.int .i64 u.int)).setCell ⟨w5.heap.size + 1, 2, none⟩ (.string u.text)).setCell ⟨w5.heap.size + 1, 3, none⟩ (.slice l7 m7 c7)).setCell ⟨w5.heap.size + 1, 4, none⟩ (.slice g7 f7 h7)) = w9 at bf9 HBX9 HBY9 HBW9 h79 h59 ⊢
    have HB59 := Ap.of h59
    have HB39 := Ap.of (bel_step HB35.out h59)
    have df := blk_cells bf9
    have lf := blk_lt bf9
    have dx := blk_cells HBX9.out
    have lx := blk_lt HBX9.out
    have dy := blk_cells HBY9.out
    have ly := blk_lt HBY9.out
    clear hs9 bf9 hb3 h79 h59 HBX7 HBY7 HBW7 HBF7
    have hcs := HCS.out
    rw [show decide (l ≠ []) = true from decide_eq_true HL0.out, List.dropLast_eq_take, HLN.out, ← HU.out, Bool.and_true] at hcs
    cases h8 : oc.isSome with
    | false =>
      have hcs' : oz.isSome = false ∨ (u.kind == 5) = false := by
        rw [h8] at hcs
        rcases Bool.and_eq_false_iff.1 hcs.symm with h | h
        · exact .inl h
        · exact .inr (by simpa using h)
      clear hcs
      have hoc0 : oc = none := by cases oc with | none => rfl | some v => simp at h8
      have hyx : y = x := by rw [HY.out, hoc0]; rfl
      clear hoc0
      have hsame := same_calls (D + 2) y x l5 m5 c5 g5 f5 h5 la ln lc fa fn fc (fun _ => True) w9 (Knd.below (Knd.below HR.out HB45.out) HB59.out) (KV_le HD.out _ _ _ _ (Knd.below HX3.out HB39.out))
      rw [hyx, cmpD_self] at hsame
      have HS := Ap.of hsame
      clear hsame
      clear HY HCS
      subst hyx
      generalize oz.isSome = hd at *
      rcases hcs' with rfl | hk5
      · go_wp2_with fail
        refine HS.out.mono ?_
        rintro e w8 ⟨rfl, hb⟩
        go_wp2_with fail
        go_ret
        exact ⟨rfl, bel_step (bel_step HB3.out HB39.out) hb⟩
      · cases hd
        all_goals
          go_wp2_with fail
          refine HS.out.mono ?_
          rintro e w8 ⟨rfl, hb⟩
          go_wp2_with fail
          go_ret
          exact ⟨rfl, bel_step (bel_step HB3.out HB39.out) hb⟩
    | true =>
      have hcs2 : oz.isSome = true ∧ (u.kind == 5) = true := by
        rw [h8] at hcs
        obtain ⟨h1, h2⟩ := Bool.and_eq_true_iff.1 hcs.symm
        exact ⟨h1, by simpa using h2⟩
      obtain ⟨h1, hk5⟩ := hcs2
      clear hcs
      obtain ⟨v, hov⟩ := Option.isSome_iff_exists.1 h1
      obtain ⟨y', hoy⟩ := Option.isSome_iff_exists.1 h8
      have hyy : y' = y := by rw [HY.out, hoy]; rfl
      have hzv : v = z := by rw [HZ.out, hov]; rfl
      subst hyy hzv
      have HOC := Ap.of (HOC.out.trans hoy)
      have HOF := Ap.of (HOF.out.trans hov)
      clear hov hoy HY HZ HCS
      obtain ⟨hback, hput⟩ := cut_back 4 l x y' v (good_riseD 4 x HG.out) HOC.out HOF.out
      have hfy : Few 5 y' := few_cut l (N := 4) (Few.of_good HG.out) HOC.out
      have HFY := Ap.of hfy
      have HPUT := Ap.of hput
      have hfind := find_calls D y' l5 m5 c5 g5 f5 h5 A n c l (fun _ => True) w9 ((G3.out.below HB39.out).path.fin) HFY.out (HL.out.below HB39.out) (Knd.below (Knd.below HR.out HB45.out) HB59.out)
      rw [hback] at hfind
      have HFI := Ap.of hfind
      clear hfind hback hput hfy
      go_wp2_with fail
      refine HFI.out.mono ?_
      rintro e w10 ⟨u2, l8, m8, c8, g8, f8, h8, rfl, hu2, hr8, hb⟩
      have HB910 := Ap.of (bel_step hb (bel_alloc w10 (.cells #[.int .i64 u2.kind, .int .i64 u2.int, .string u2.text, .slice l8 m8 c8, .slice g8 f8 h8] 28)))
      have HB511 := Ap.of (bel_step HB59.out HB910.out)
      have HB311 := Ap.of (bel_step HB39.out HB910.out)
      have HBX11 := Ap.of (blk_bel HBX9.out HB910.out)
      have by10 := blk_bel HBY9.out hb
      have bw10 := blk_bel HBW9.out hb
      have hpc := put_all l.length 3 y' v l 5 l5 m5 c5 g5 f5 h5 l6 m6 c6 g6 f6 h6 A n c (fun _ => True) (w10.alloc (.cells #[.int .i64 u2.kind, .int .i64 u2.int, .string u2.text, .slice l8 m8 c8, .slice g8 f8 h8] 28)) rfl HFY.out (by decide) (G3.out.below HB311.out).path.fin (HL.out.below HB311.out)
        (by rw [HDD.out]; exact Knd.below (Knd.below HR.out HB45.out) HB511.out) (Knd.below HRZ.out HB511.out)
      rw [HPUT.out, HDD.out] at hpc
      have HPC := Ap.of hpc
      have ey := blk_cells by10
      have my := blk_lt by10
      have ew := blk_cells bw10
      have mw := blk_lt bw10
      clear hu2 hr8 hb df lf dx lx dy ly HFI hpc by10 bw10
      go_wp2_with fail
      refine HPC.out.mono ?_
      rintro e w12 (⟨z2, e1, l9, m9, c9, g9, f9, h9, rfl, hr9, hb⟩ | ⟨e1, _⟩)
      case inr => cases e1
      have hz2 : x = z2 := by injection e1
      subst hz2
      have HB1112 := Ap.of hb
      have hsame := same_calls (D + 2) x x l9 m9 c9 g9 f9 h9 la ln lc fa fn fc (fun _ => True) (w12.alloc (.cells #[.int .i64 x.kind, .int .i64 x.int, .string x.text, .slice l9 m9 c9, .slice g9 f9 h9] 28)) ((KV (D + 2)).mono (fun _ _ => trivial) (Knd.below hr9 (bel_alloc _ _))) (KV_le HD.out _ _ _ _ (Knd.below HX3.out (bel_step (bel_step HB311.out hb) (bel_alloc _ _))))
      rw [cmpD_self] at hsame
      have HS := Ap.of hsame
      have bx12 := blk_bel HBX11.out hb
      have dx := blk_cells bx12
      have lx := blk_lt bx12
      clear hsame hr9 hb e1 bx12 ey my ew mw
      go_wp2_with fail
      refine HS.out.mono ?_
      rintro e w13 ⟨rfl, hb⟩
      go_wp2_with fail
      go_ret
      exact ⟨rfl, bel_step (bel_step (bel_step (bel_step HB3.out HB311.out) HB1112.out) (bel_alloc _ _)) hb⟩
end Go.Proofs.YtlomieopppndeaaGreatDoor
