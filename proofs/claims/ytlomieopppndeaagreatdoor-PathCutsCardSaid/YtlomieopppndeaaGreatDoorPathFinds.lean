/- PathFinds' walk. -/
import Derived.Test.YtlomieopppndeaaGreatDoorWay
namespace Go.Proofs.YtlomieopppndeaaGreatDoor
open Go.RowKit

/-- What the statements on paths read of the program's own variables. -/
structure StG (w : World) : Prop where
  path : PathG w
  laid : Laid w
theorem StG.below {w w' : World} (h : StG w) (hb : Below w.heap.size w w') : StG w' := ⟨h.path.below hb, h.laid.below hb⟩

set_option maxRecDepth 100000 in
set_option maxHeartbeats 2000000 in
theorem finds_calls (A0 : Option Addr) (n0 c0 : Nat) (A1 : Option Addr) (n1 c1 : Nat) (w : World) (b0 : Bs w (fun k => k < w.heap.size) A0 n0 c0) (b1 : Bs w (fun k => k < w.heap.size) A1 n1 c1) (G : StG w) :
    Calls Tryz.prog 3 #[.slice A0 n0 c0, .slice A1 n1 c1] w fun e w' => e = .returned (.bool true) ∧ Below w.heap.size w w' := by
  have GG := Ap.of G
  have B0 := Ap.of b0
  have B1 := Ap.of b1
  clear G b0 b1
  go_enter Tryz.func3, Tryz.ntmps3
  go_wp2_with fail
  refine (awake_calls w GG.out.path).mono ?_
  rintro e w1 ⟨rfl, hb⟩
  have HB1 := Ap.of hb
  have G1 := Ap.of (GG.out.below hb)
  clear hb
  go_wp2_with fail
  refine (of_calls A0 n0 c0 w1 _ (fun k hk => Nat.lt_of_lt_of_le hk HB1.out.size) G1.out.laid (B0.out.below HB1.out)).mono ?_
  rintro e w2 ⟨x, la, ln, lc, fa, fn, fc, rfl, hx, hg, hb⟩
  have HX := Ap.of hx
  have HG := Ap.of hg
  have HB2 := Ap.of (bel_step HB1.out hb)
  have G2 := Ap.of (G1.out.below hb)
  have S12 := hb.size
  clear hb hx hg
  go_wp2_with fail
  refine (way_calls A1 n1 c1 w2 _ (fun k hk => Nat.lt_of_lt_of_le hk HB2.out.size) (B1.out.below HB2.out)).mono ?_
  rintro e w3 ⟨A, n, c, l, rfl, hl, hn4, hw, hb⟩
  have HL := Ap.of hl
  have HX3 := Ap.of (Knd.below HX.out hb)
  have HB3 := Ap.of (bel_step HB2.out hb)
  have G3 := Ap.of (G2.out.below hb)
  have S23 := hb.size
  clear hb hl hw HX
  have hfind := find_calls 2 x la ln lc fa fn fc A n c l (fun _ => True) (w3.alloc (.cells #[.int .i64 x.kind, .int .i64 x.int, .string x.text, .slice la ln lc, .slice fa fn fc] 28)) (G3.out.below (bel_alloc _ _)).path.fin (Few.of_good HG.out) ((HL.out.mono (fun _ _ => trivial)).below (bel_alloc _ _)) ((KV 4).mono (fun _ _ => trivial) (Knd.below HX3.out (bel_alloc _ _)))
  have HF := Ap.of hfind
  have hlf := fun W (hW : Below w3.heap.size w3 W) => lfind_calls 2 x la ln lc fa fn fc A n c l (fun _ => True) W (Few.of_good HG.out) ((HL.out.mono (fun _ _ => trivial)).below hW) ((KV 4).mono (fun _ _ => trivial) (Knd.below HX3.out hW))
  have HLF := Ap.of hlf
  have b0 := blk_new (w := w3) (o := .cells #[.int .i64 x.kind, .int .i64 x.int, .string x.text, .slice la ln lc, .slice fa fn fc] 28) rfl
  have HBV := Ap.of b0
  clear hfind hlf b0
  generalize x.find l = o at *
  generalize x.int = xi at *
  generalize x.kind = xk at *
  generalize x.text = xt at *
  go_wp2_with fail
  refine HF.out.mono ?_
  rintro e w4 ⟨y, la2, ln2, lc2, fa2, fn2, fc2, rfl, hy, hr, hb⟩
  have HR := Ap.of hr
  have HB4 := Ap.of (bel_step (bel_step HB3.out (bel_alloc _ _)) hb)
  have HC4 := Ap.of (bel_step (bel_alloc w3 _) hb)
  have bv := blk_bel HBV.out hb
  have HBV4 := Ap.of bv
  have cv := blk_cells bv
  have lv := blk_lt bv
  have HY := Ap.of hy
  clear hb hr bv hy HF HBV
  go_wp2_with fail
  refine (HLF.out _ (bel_step HC4.out (bel_alloc _ _))).mono ?_
  rintro e w5 ⟨z, la3, ln3, lc3, fa3, fn3, fc3, rfl, hz, hr, hb⟩
  have HR3 := Ap.of hr
  have HR2 := Ap.of (Knd.below (Knd.below HR.out (bel_alloc _ _)) hb)
  have by4 := blk_bel (blk_new (w := w4) (o := .cells #[.int .i64 y.kind, .int .i64 y.int, .string y.text, .slice la2 ln2 lc2, .slice fa2 fn2 fc2] 28) rfl) hb
  have cy := blk_cells by4
  have ly := blk_lt by4
  have HB5 := Ap.of (bel_step (bel_step HB4.out (bel_alloc _ _)) hb)
  have hzy : z = y := by rw [HY.out]; exact hz
  clear hb hr by4 hz HY
  subst hzy
  have hsame := same_calls 4 z z la2 ln2 lc2 fa2 fn2 fc2 la3 ln3 lc3 fa3 fn3 fc3 (fun _ => True) (w5.alloc (.cells #[.int .i64 z.kind, .int .i64 z.int, .string z.text, .slice la3 ln3 lc3, .slice fa3 fn3 fc3] 28)) (Knd.below HR2.out (bel_alloc _ _)) (Knd.below HR3.out (bel_alloc _ _))
  rw [cmpD_self] at hsame
  have HS := Ap.of hsame
  clear hsame
  generalize o.isSome = os at *
  generalize z.int = zi at *
  generalize z.kind = zk at *
  generalize z.text = zt at *
  cases os
  all_goals
    go_wp2_with fail
    refine HS.out.mono ?_
    rintro e w6 ⟨rfl, hb⟩
    have HB6 := Ap.of (bel_step (bel_step HB5.out (bel_alloc _ _)) hb)
    clear hb
    go_wp2_with fail
    go_ret
    exact ⟨rfl, HB6.out⟩
end Go.Proofs.YtlomieopppndeaaGreatDoor
