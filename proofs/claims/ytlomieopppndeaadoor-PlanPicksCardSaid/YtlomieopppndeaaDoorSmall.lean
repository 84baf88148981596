/- Values of one byte; conditions of two bytes: roundelaylaw16's small, test. -/
import Derived.Test.YtlomieopppndeaaDoorOf
import Derived.Deep.RegionHeld3
namespace Go.Proofs.YtlomieopppndeaaDoor
open Go.RowKit

theorem GoodV_le : ∀ (d : Nat) (x : Val), GoodV d x → GoodV (d + 1) x
  | 0, _ => fun h => h.elim
  | d + 1, x => by
    rintro ⟨a, b, c, e, f, g, h, i, r⟩
    exact ⟨a, b, c, e, f, fun y hy => GoodV_le d y (g y hy), h, fun p hp => GoodV_le d p.2 (i p hp), r⟩
theorem Bs.one {w : World} {g : Nat} {t : TypeId} {c : Int} (hg : w.heap[g]? = some (.cells #[.int .u8 c] t (0, 0))) (h0 : 0 ≤ c) (h1 : c ≤ 255) : Bs w (fun k => k = g) (some ⟨g, 0, none⟩) 1 1 :=
  ⟨Nat.le_refl _, by decide, (fun h => by cases h), .inr ⟨g, 0, rfl, rfl, blk_lt hg, fun i hi => by
    obtain rfl : i = 0 := by omega
    exact ⟨c, blk_cells hg 0, h0, h1⟩⟩⟩
set_option maxRecDepth 100000 in
set_option maxHeartbeats 1000000 in
theorem small_calls (c : Int) (h0 : 0 ≤ c) (h1 : c ≤ 255) (w : World) (hL : Laid w) :
    Calls Tryd.prog 33 #[.int .u8 c] w (ValP 4 w) := by
  have HL := Ap.of hL
  clear hL
  have hb2 := bel_step (bel_alloc w (.cells #[.int .i64 0, .int .i64 0, .string ⟨#[]⟩, .slice none 0 0, .slice none 0 0] 29)) (bel_alloc _ (.cells #[.int .u8 c] 5))
  have hof := of_calls (some ⟨w.heap.size + 1, 0, none⟩) 1 1 ((w.alloc (.cells #[.int .i64 0, .int .i64 0, .string ⟨#[]⟩, .slice none 0 0, .slice none 0 0] 29)).alloc (.cells #[.int .u8 c] 5)) _ (fun k hk => by simp; omega) (HL.out.below hb2) (Bs.one (blk_new (by simp)) h0 h1)
  have HOF := Ap.of hof
  have HB2 := Ap.of hb2
  have b0 := blk_old (o' := .cells #[.int .u8 c] 5) (blk_new (w := w) (o := .cells #[.int .i64 0, .int .i64 0, .string ⟨#[]⟩, .slice none 0 0, .slice none 0 0] 29) rfl)
  have HB0 := Ap.of b0
  clear hof hb2 b0
  have e0 : (0 : Int) ≤ c / 5 := by omega
  have e1 : c / 5 ≤ 51 := by omega
  by_cases h5 : c % 5 = 0
  · have t1 : (c % 5 == 0) = true := by simpa using h5
    clear h5
    go_enter Tryd.func33, Tryd.ntmps33
    go_wp2_with fail
    refine HOF.out.mono ?_
    rintro e w1 ⟨x, la, ln, lc, fa, fn, fc, rfl, hx, hg, hb⟩
    have HB3 := Ap.of (bel_step HB2.out hb)
    have b1 := blk_bel HB0.out hb
    have c1 := blk_cells b1
    have f1 := blk_free b1
    have l1 := blk_lt b1
    clear hx hg hb b1
    generalize x.int = xi at *
    generalize x.kind = xk at *
    generalize x.text = xt at *
    go_wp2_with fail
    have hs := (only5 w1 w.heap.size (.int .i64 2) (.int .i64 (c / 5 % 4)) (.string ⟨#[]⟩) (.slice none 0 0) (.slice none 0 0)).alloc (.cells #[.int .i64 xk, .int .i64 xi, .string xt, .slice la ln lc, .slice fa fn fc] 29)
    exact bodyPost_ret (v := .agg #[.int .i64 2, .int .i64 (c / 5 % 4), .string ⟨#[]⟩, .slice none 0 0, .slice none 0 0]) (by simp [results, Tryd.results33, go_sem, c1, l1]) rfl
      ⟨.mk 2 (c / 5 % 4) ⟨#[]⟩ [] [], none, 0, 0, none, 0, 0, rfl, flat_R 3 _ _ 2 _ _ (inI64_small (by decide) (by decide)) (inI64_small (by omega) (by omega)) (by unfold maxLen; decide),
        flat_good 3 2 _ _ (by decide) (by decide) (inI64_small (by omega) (by omega)) empty_word (.inr (.inl rfl)) (.inr rfl) (fun h => by cases h), bel_only HB3.out HB3.out.size hs (fun j he => by omega)⟩
  · have t1 : (c % 5 == 0) = false := by simpa using h5
    clear h5
    go_enter Tryd.func33, Tryd.ntmps33
    go_wp2_with fail
    refine HOF.out.mono ?_
    rintro e w1 ⟨x, la, ln, lc, fa, fn, fc, rfl, hx, hg, hb⟩
    have HB3 := Ap.of (bel_step HB2.out hb)
    have b1 := blk_bel HB0.out hb
    have c1 := blk_cells b1
    have f1 := blk_free b1
    have l1 := blk_lt b1
    have HX := Ap.of hx
    have HG := Ap.of hg
    clear hx hg hb b1
    go_wp2_with fail
    have hs := (only5 w1 w.heap.size (.int .i64 x.kind) (.int .i64 x.int) (.string x.text) (.slice la ln lc) (.slice fa fn fc)).alloc (.cells #[.int .i64 x.kind, .int .i64 x.int, .string x.text, .slice la ln lc, .slice fa fn fc] 29)
    exact bodyPost_ret (v := .agg #[.int .i64 x.kind, .int .i64 x.int, .string x.text, .slice la ln lc, .slice fa fn fc]) (by simp [results, Tryd.results33, go_sem, c1, l1]) rfl
      ⟨x, la, ln, lc, fa, fn, fc, rfl, (KV 4).mono (fun j hj => by simp at hj; omega) (Knd.only HX.out hs (fun j hj he => by simp at hj; omega)), HG.out, bel_only HB3.out HB3.out.size hs (fun j he => by omega)⟩
end Go.Proofs.YtlomieopppndeaaDoor
