/- filter.Match: whether a value meets a filter. -/
import Derived.Test.YtlomieopppndeaaGreatDoorFltLaw
import Derived.Test.YtlomieopppndeaaGreatDoorCmp
import Derived.Laws.EntriesVeiled
namespace Go.Proofs.YtlomieopppndeaaGreatDoor
open Go.RowKit

/-! ### What stands at the end of a path -/
set_option maxRecDepth 100000 in
set_option maxHeartbeats 4000000 in
theorem found_calls (dv : Nat) (x : Val) (la2 : Option Addr) (ln2 lc2 : Nat) (fa2 : Option Addr) (fn2 fc2 : Nat) (p : ByteArray) (hp : p.size < 4294967281) (w : World) {N : Nat} (hF : Few N x) (G : ParG w) (F : FinG w) (hx : (KV (dv + 2)).R w (fun _ => True) x [.int .i64 x.kind, .int .i64 x.int, .string x.text, .slice la2 ln2 lc2, .slice fa2 fn2 fc2]) :
    Calls Tryz.prog 52 #[.agg #[.int .i64 x.kind, .int .i64 x.int, .string x.text, .slice la2 ln2 lc2, .slice fa2 fn2 fc2], .string p] w (FoundP (dv + 2) w (fun _ => True) (foundV x p)) := by
  have hb2 := bel_step (bel_alloc w (.cells #[.int .i64 x.kind, .int .i64 x.int, .string x.text, .slice la2 ln2 lc2, .slice fa2 fn2 fc2] 28)) (bel_alloc _ (.cells #[.int .i64 0, .int .i64 0, .string ⟨#[]⟩, .slice none 0 0, .slice none 0 0] 28))
  have hparse := parse_callsP p _ hp (G.below hb2)
  have HPA := Ap.of hparse
  have HB2 := Ap.of hb2
  have HF := Ap.of hF
  have HFG := Ap.of F
  have HX := Ap.of ((KV (dv + 2)).mono (ok' := fun k => k ≠ w.heap.size + 1) (fun k hk => by have := hk.2; omega) ((KV (dv + 2)).bound hx))
  have bx := blk_old (o' := .cells #[.int .i64 0, .int .i64 0, .string ⟨#[]⟩, .slice none 0 0, .slice none 0 0] 28) (blk_new (w := w) (k := w.heap.size) (o := .cells #[.int .i64 x.kind, .int .i64 x.int, .string x.text, .slice la2 ln2 lc2, .slice fa2 fn2 fc2] 28) rfl)
  have br := blk_new (w := w.alloc (.cells #[.int .i64 x.kind, .int .i64 x.int, .string x.text, .slice la2 ln2 lc2, .slice fa2 fn2 fc2] 28)) (k := w.heap.size + 1) (o := .cells #[.int .i64 0, .int .i64 0, .string ⟨#[]⟩, .slice none 0 0, .slice none 0 0] 28) (by simp)
  have HBX := Ap.of bx
  have HBR := Ap.of br
  have HS2 := Ap.of (show ((w.alloc (.cells #[.int .i64 x.kind, .int .i64 x.int, .string x.text, .slice la2 ln2 lc2, .slice fa2 fn2 fc2] 28)).alloc (.cells #[.int .i64 0, .int .i64 0, .string ⟨#[]⟩, .slice none 0 0, .slice none 0 0] 28)).heap.size = w.heap.size + 2 by simp)
  clear hb2 hparse hF F hx bx br G
  go_enter Tryz.func52, Tryz.ntmps52
  go_wp2_with fail
  refine HPA.out.mono ?_
  rintro e w1 (⟨hok, g, rfl, hg, hs, hb⟩ | ⟨hok, g, rfl, hE, hb⟩)
  · have HFV := Ap.of (show foundV x p = x.find (partsOf p) from if_pos hok)
    have HB1 := Ap.of (bel_step HB2.out hb)
    have bx1 := blk_bel HBX.out hb
    have br1 := blk_bel HBR.out hb
    have HBR1 := Ap.of br1
    have hfind := find_calls dv x la2 ln2 lc2 fa2 fn2 fc2 (some ⟨g, 0, none⟩) (partsOf p).length (partsOf p).length (partsOf p) (fun k => k ≠ w.heap.size + 1) w1 (HFG.out.below HB1.out) HF.out (hs.row (by have := HS2.out; omega) (pathOk_parts hok).1 (pathOk_parts hok).2) (Knd.below HX.out HB1.out)
    have HFI := Ap.of hfind
    have dx := blk_cells bx1
    have lx := blk_lt bx1
    have dr := blk_cells br1
    have fr := blk_free br1
    have lr := blk_lt br1
    clear hok hg hs hb bx1 br1 hfind
    generalize hpl : (partsOf p).length = pn at *
    go_wp2_with fail
    refine HFI.out.mono ?_
    rintro e w2 ⟨y, l5, m5, c5, g5, f5, h5, rfl, hy, hr, hb⟩
    have HY := Ap.of hy
    have HR := Ap.of hr
    have HB3 := Ap.of (bel_step HB1.out hb)
    have br2 := blk_bel HBR1.out hb
    have dr2 := blk_cells br2
    have fr2 := blk_free br2
    have lr2 := blk_lt br2
    clear hy hr hb br2 dx lx dr fr lr
    go_wp2_with fail
    have hs := only5 w2 (w.heap.size + 1) (.int .i64 y.kind) (.int .i64 y.int) (.string y.text) (.slice l5 m5 c5) (.slice g5 f5 h5)
    exact bodyPost_ret (v := .tuple #[.agg #[.int .i64 y.kind, .int .i64 y.int, .string y.text, .slice l5 m5 c5, .slice g5 f5 h5], .bool (x.find (partsOf p)).isSome]) (by simp [results, Tryz.results52, go_sem, dr2]) rfl
      (by rw [HFV.out]; exact ⟨y, l5, m5, c5, g5, f5, h5, rfl, HY.out, (KV (dv + 2)).mono (fun _ _ => trivial) (Knd.only HR.out hs (fun k hk e => hk e)), bel_only HB3.out HB3.out.size hs (fun j he => by omega)⟩)
  · have HFV := Ap.of (show foundV x p = none from if_neg (by rw [hok]; decide))
    have HB1 := Ap.of (bel_step HB2.out hb)
    have br1 := blk_bel HBR.out hb
    have dr := blk_cells br1
    have fr := blk_free br1
    have lr := blk_lt br1
    clear hok hE hb br1
    go_wp2_with fail
    have hs := only5 w1 (w.heap.size + 1) (.int .i64 0) (.int .i64 0) (.string ⟨#[]⟩) (.slice none 0 0) (.slice none 0 0)
    exact bodyPost_ret (v := .tuple #[.agg #[.int .i64 0, .int .i64 0, .string ⟨#[]⟩, .slice none 0 0, .slice none 0 0], .bool false]) (by simp [results, Tryz.results52, go_sem, dr]) rfl
      (by rw [HFV.out]; exact ⟨Val.zero, none, 0, 0, none, 0, 0, rfl, rfl, KV_zero _ _ _, bel_only HB1.out HB1.out.size hs (fun j he => by omega)⟩)

/-! ### One condition -/
set_option maxRecDepth 100000 in
set_option maxHeartbeats 4000000 in
theorem one1_calls (d : Nat) (x y : Val) (la : Option Addr) (ln lc : Nat) (fa : Option Addr) (fn fc : Nat) (la2 : Option Addr) (ln2 lc2 : Nat) (fa2 : Option Addr) (fn2 fc2 : Nat) (g : Nat) (w : World) (hg : w.heap[g]? = some (.cells #[.int .i64 x.kind, .int .i64 x.int, .string x.text, .slice la ln lc, .slice fa fn fc] 28 (0, 0))) (hx : (KV d).R w (fun _ => True) x [.int .i64 x.kind, .int .i64 x.int, .string x.text, .slice la ln lc, .slice fa fn fc]) (hy : (KV d).R w (fun _ => True) y [.int .i64 y.kind, .int .i64 y.int, .string y.text, .slice la2 ln2 lc2, .slice fa2 fn2 fc2]) :
    Calls Tryz.prog 81 #[.agg #[.int .i64 y.kind, .int .i64 y.int, .string y.text, .slice la2 ln2 lc2, .slice fa2 fn2 fc2], .pointer (some ⟨g, 0, none⟩)] w fun e w' => e = .returned (.bool (cmpD d x y == 0)) ∧ Below w.heap.size w w' := by
  have hsame := same_calls d x y la ln lc fa fn fc la2 ln2 lc2 fa2 fn2 fc2 (fun _ => True) (w.alloc (.cells #[.int .i64 y.kind, .int .i64 y.int, .string y.text, .slice la2 ln2 lc2, .slice fa2 fn2 fc2] 28)) (Knd.below hx (bel_alloc _ _)) (Knd.below hy (bel_alloc _ _))
  have HS := Ap.of hsame
  have cx := blk_cells hg
  have lx := blk_lt hg
  clear hsame hg hx hy
  generalize cmpD d x y = k at *
  go_enter Tryz.func81, Tryz.ntmps81
  go_wp2_with fail
  refine HS.out.mono ?_
  rintro e w1 ⟨rfl, hb⟩
  go_wp2_with fail
  go_ret
  exact ⟨rfl, bel_step (bel_alloc _ _) hb⟩
set_option maxRecDepth 100000 in
set_option maxHeartbeats 4000000 in
theorem vidx_calls (d : Nat) (x : Val) (la : Option Addr) (ln lc : Nat) (fa : Option Addr) (fn fc : Nat) (g : Nat) (A : Option Addr) (n c : Nat) (ys : List Val) (w : World) (hg : w.heap[g]? = some (.cells #[.int .i64 x.kind, .int .i64 x.int, .string x.text, .slice la ln lc, .slice fa fn fc] 28 (0, 0))) (hx : (KV (d + 1)).R w (fun _ => True) x [.int .i64 x.kind, .int .i64 x.int, .string x.text, .slice la ln lc, .slice fa fn fc]) (h : Row (KV (d + 1)) w (fun _ => True) A n c ys) :
    Calls Tryz.prog 114 #[.slice A n c, .func (.func 81) #[] #[.pointer (some ⟨g, 0, none⟩)]] w fun e w' => ∃ m : Int, e = .returned (.int .i64 m) ∧ decide (0 ≤ m) = ys.any (fun y => cmpD (d + 1) x y == 0) ∧ Below w.heap.size w w' := by
  have hlen := h.length
  have hcap := h.cap
  have HG := Ap.of hg
  have HX := Ap.of hx
  have H := Ap.of h
  have HLN := Ap.of hlen
  clear hg hx h hlen
  go_enter Tryz.func114, Tryz.ntmps114
  go_wp2_with fail
  go_loopw [8] (fun i wr => ∃ k : Nat, k ≤ n ∧ i = .int .i64 k ∧ Ap ((ys.take k).any (fun y => cmpD (d + 1) x y == 0) = false) ∧ Ap (Below w.heap.size w wr)) (fun i _ => n - (intOf i).toNat)
  case atStart => exact ⟨0, Nat.zero_le _, rfl, Ap.of (by simp), Ap.of (Below.refl _ _)⟩
  case round =>
    obtain ⟨k, hk, rfl, HN, BL⟩ := hrel
    by_cases hlt : k < n
    · obtain ⟨g2, off, y, la2, ln2, lc2, fa2, fn2, fc2, rfl, hy, hr, c0, c1, c2, c3, c4⟩ := val_cells (H.out.below BL.out) hlt
      have HY := Ap.of hy
      have hcall := one1_calls (d + 1) x y la ln lc fa fn fc la2 ln2 lc2 fa2 fn2 fc2 g wr (blk_bel HG.out BL.out) (Knd.below HX.out BL.out) hr
      have HC := Ap.of hcall
      clear hy hr hcall
      cases hb : (cmpD (d + 1) x y == 0) with
      | true =>
        have HB := Ap.of hb
        clear hb
        go_wp2_with fail
        refine HC.out.mono ?_
        rw [HB.out]
        rintro e w1 ⟨rfl, hbl⟩
        go_wp2_with fail
        go_ret
        exact ⟨_, rfl, by rw [any_of_take _ HY.out HB.out]; simp, bel_stepB BL.out BL.out.size hbl⟩
      | false =>
        have HB := Ap.of hb
        clear hb
        go_wp2_with fail
        refine HC.out.mono ?_
        rw [HB.out]
        rintro e w1 ⟨rfl, hbl⟩
        go_wp2_with fail
        go_roundw
        case rel => exact ⟨k + 1, by omega, by go_num, Ap.of (by rw [take_any _ HY.out, HN.out, HB.out]; rfl), Ap.of (bel_stepB BL.out BL.out.size hbl)⟩
        case measure => simp [intOf]; omega
    · obtain rfl : k = n := by omega
      go_wp2_with fail
      go_ret
      exact ⟨_, rfl, by have := HN.out; rw [← HLN.out, List.take_length] at this; rw [this]; decide, BL.out⟩
set_option maxRecDepth 100000 in
set_option maxHeartbeats 4000000 in
theorem vcont_calls (d : Nat) (x : Val) (la : Option Addr) (ln lc : Nat) (fa : Option Addr) (fn fc : Nat) (g : Nat) (A : Option Addr) (n c : Nat) (ys : List Val) (w : World) (hg : w.heap[g]? = some (.cells #[.int .i64 x.kind, .int .i64 x.int, .string x.text, .slice la ln lc, .slice fa fn fc] 28 (0, 0))) (hx : (KV (d + 1)).R w (fun _ => True) x [.int .i64 x.kind, .int .i64 x.int, .string x.text, .slice la ln lc, .slice fa fn fc]) (h : Row (KV (d + 1)) w (fun _ => True) A n c ys) :
    Calls Tryz.prog 80 #[.slice A n c, .func (.func 81) #[] #[.pointer (some ⟨g, 0, none⟩)]] w fun e w' => e = .returned (.bool (ys.any (fun y => cmpD (d + 1) x y == 0))) ∧ Below w.heap.size w w' := by
  have HI := Ap.of (vidx_calls d x la ln lc fa fn fc g A n c ys w hg hx h)
  clear hg hx h
  go_enter Tryz.func80, Tryz.ntmps80
  go_wp2_with fail
  refine HI.out.mono ?_
  rintro e w1 ⟨m, rfl, hm, hb⟩
  have HM := Ap.of hm
  clear hm
  go_wp2_with fail
  go_ret
  exact ⟨by rw [HM.out]; rfl, hb⟩

set_option maxRecDepth 100000 in
set_option maxHeartbeats 4000000 in
theorem fone_calls (dv : Nat) (f : Flt) (la : Option Addr) (ln lc : Nat) (fa : Option Addr) (fn fc : Nat) (sa : Option Addr) (sn sc : Nat) (x : Val) (la2 : Option Addr) (ln2 lc2 : Nat) (fa2 : Option Addr) (fn2 fc2 : Nat) (w : World) (hfv : (KV (dv + 2)).R w (fun _ => True) f.val [.int .i64 f.val.kind, .int .i64 f.val.int, .string f.val.text, .slice la ln lc, .slice fa fn fc]) (hx : (KV (dv + 2)).R w (fun _ => True) x [.int .i64 x.kind, .int .i64 x.int, .string x.text, .slice la2 ln2 lc2, .slice fa2 fn2 fc2]) :
    Calls Tryz.prog 53 #[.agg #[.int .i64 f.op, .string f.path, .int .i64 f.val.kind, .int .i64 f.val.int, .string f.val.text, .slice la ln lc, .slice fa fn fc, .slice sa sn sc], .agg #[.int .i64 x.kind, .int .i64 x.int, .string x.text, .slice la2 ln2 lc2, .slice fa2 fn2 fc2]] w fun e w' => e = .returned (.bool (oneD (dv + 2) f x)) ∧ Below w.heap.size w w' := by
  have hb2 := bel_step (bel_alloc w (.cells #[.int .i64 f.op, .string f.path, .int .i64 f.val.kind, .int .i64 f.val.int, .string f.val.text, .slice la ln lc, .slice fa fn fc, .slice sa sn sc] 42)) (bel_alloc _ (.cells #[.int .i64 x.kind, .int .i64 x.int, .string x.text, .slice la2 ln2 lc2, .slice fa2 fn2 fc2] 28))
  have hcmp := cmp_calls (dv + 2) x f.val la2 ln2 lc2 fa2 fn2 fc2 la ln lc fa fn fc (fun _ => True) _ (Knd.below hx hb2) (Knd.below hfv hb2)
  have bx := blk_new (w := w.alloc (.cells #[.int .i64 f.op, .string f.path, .int .i64 f.val.kind, .int .i64 f.val.int, .string f.val.text, .slice la ln lc, .slice fa fn fc, .slice sa sn sc] 42)) (k := w.heap.size + 1) (o := .cells #[.int .i64 x.kind, .int .i64 x.int, .string x.text, .slice la2 ln2 lc2, .slice fa2 fn2 fc2] 28) (by simp)
  have bf := blk_old (o' := .cells #[.int .i64 x.kind, .int .i64 x.int, .string x.text, .slice la2 ln2 lc2, .slice fa2 fn2 fc2] 28) (blk_new (w := w) (k := w.heap.size) (o := .cells #[.int .i64 f.op, .string f.path, .int .i64 f.val.kind, .int .i64 f.val.int, .string f.val.text, .slice la ln lc, .slice fa fn fc, .slice sa sn sc] 42) rfl)
  have hcont := fun W (hW : Below ((w.alloc (.cells #[.int .i64 f.op, .string f.path, .int .i64 f.val.kind, .int .i64 f.val.int, .string f.val.text, .slice la ln lc, .slice fa fn fc, .slice sa sn sc] 42)).alloc (.cells #[.int .i64 x.kind, .int .i64 x.int, .string x.text, .slice la2 ln2 lc2, .slice fa2 fn2 fc2] 28)).heap.size ((w.alloc (.cells #[.int .i64 f.op, .string f.path, .int .i64 f.val.kind, .int .i64 f.val.int, .string f.val.text, .slice la ln lc, .slice fa fn fc, .slice sa sn sc] 42)).alloc (.cells #[.int .i64 x.kind, .int .i64 x.int, .string x.text, .slice la2 ln2 lc2, .slice fa2 fn2 fc2] 28)) W) => vcont_calls (dv + 1) x la2 ln2 lc2 fa2 fn2 fc2 (w.heap.size + 1) la ln lc f.val.list W (blk_bel bx hW) (Knd.below hx (bel_step hb2 hW)) (((KV_parts (Knd.below hfv (bel_step hb2 hW))).2.2.2.1).deeper (by rw [KV_sz, KV_sz]) (KV_deeper _))
  have HCM := Ap.of hcmp
  have HCN := Ap.of hcont
  have HBF := Ap.of bf
  have HB2 := Ap.of hb2
  show Calls _ _ _ _ (fun e w' => e = .returned (.bool (oneK f.op (cmpD (dv + 2) x f.val) (f.val.list.any (fun y => cmpD (dv + 2) x y == 0)))) ∧ Below w.heap.size w w')
  clear hcmp hcont bx bf hb2 hx hfv
  generalize cmpD (dv + 2) x f.val = k at *
  generalize f.val.list.any (fun y => cmpD (dv + 2) x y == 0) = b at *
  generalize f.op = fo at *
  generalize f.path = fp at *
  generalize f.val.kind = fk at *
  generalize f.val.int = fi at *
  generalize f.val.text = ft at *
  generalize x.kind = xk at *
  generalize x.int = xi at *
  generalize x.text = xt at *
  have hsign : (decide (0 < k) = true ∧ (k == 0) = false ∧ decide (k < 0) = false) ∨ (decide (0 < k) = false ∧ (k == 0) = true ∧ decide (k < 0) = false) ∨ (decide (0 < k) = false ∧ (k == 0) = false ∧ decide (k < 0) = true) := by
    rcases Int.lt_trichotomy k 0 with h | h | h
    · exact .inr (.inr ⟨by simp; omega, by simp; omega, by simp; omega⟩)
    · exact .inr (.inl ⟨by simp; omega, by simp; omega, by simp; omega⟩)
    · exact .inl ⟨by simp; omega, by simp; omega, by simp; omega⟩
  have hop : fo = 8 ∨ fo = 3 ∨ fo = 5 ∨ fo = 2 ∨ fo = 7 ∨ fo = 6 ∨ fo = 4 ∨ (fo ≠ 8 ∧ fo ≠ 3 ∧ fo ≠ 5 ∧ fo ≠ 2 ∧ fo ≠ 7 ∧ fo ≠ 6 ∧ fo ≠ 4) := by omega
  rcases hop with rfl | rfl | rfl | rfl | rfl | rfl | rfl | ⟨n8, n3, n5, n2, n7, n6, n4⟩
  case inr.inr.inr.inr.inr.inr.inr =>
    have t8 : (fo == 8) = false := by simpa using n8
    have t3 : (fo == 3) = false := by simpa using n3
    have t5 : (fo == 5) = false := by simpa using n5
    have t2 : (fo == 2) = false := by simpa using n2
    have t7 : (fo == 7) = false := by simpa using n7
    have t6 : (fo == 6) = false := by simpa using n6
    have t4 : (fo == 4) = false := by simpa using n4
    have HO := Ap.of (show oneK fo k b = false by unfold oneK; rw [if_neg n8, if_neg n3, if_neg n5, if_neg n2, if_neg n7, if_neg n6, if_neg n4])
    clear n8 n3 n5 n2 n7 n6 n4 hsign
    go_enter Tryz.func53, Tryz.ntmps53
    go_wp2_with fail
    refine HCM.out.mono ?_
    rintro e w1 ⟨rfl, hb⟩
    have HB3 := Ap.of (bel_step HB2.out hb)
    have bf1 := blk_bel HBF.out hb
    have cf := blk_cells bf1
    have lf := blk_lt bf1
    clear hb bf1
    go_wp2_with fail
    go_ret
    exact ⟨by rw [HO.out]; rfl, HB3.out⟩
  case inl =>
    clear hsign
    go_enter Tryz.func53, Tryz.ntmps53
    go_wp2_with fail
    refine HCM.out.mono ?_
    rintro e w1 ⟨rfl, hb⟩
    have HB3 := Ap.of (bel_step HB2.out hb)
    have HB1 := Ap.of hb
    have bf1 := blk_bel HBF.out hb
    have cf := blk_cells bf1
    have lf := blk_lt bf1
    clear hb bf1
    go_wp2_with fail
    refine (HCN.out _ HB1.out).mono ?_
    rintro e w2 ⟨rfl, hb⟩
    go_wp2_with fail
    go_ret
    exact ⟨rfl, bel_step HB3.out hb⟩
  all_goals (
    rcases hsign with ⟨h1, h2, h3⟩ | ⟨h1, h2, h3⟩ | ⟨h1, h2, h3⟩
    all_goals (
      go_enter Tryz.func53, Tryz.ntmps53
      go_wp2_with fail
      refine HCM.out.mono ?_
      rintro e w1 ⟨rfl, hb⟩
      have HB3 := Ap.of (bel_step HB2.out hb)
      have bf1 := blk_bel HBF.out hb
      have cf := blk_cells bf1
      have lf := blk_lt bf1
      clear hb bf1
      go_wp2_with fail
      go_ret
      exact ⟨by simp [oneK, h1, h2, h3, bne], HB3.out⟩))

/-! ### A whole filter -/
def MatchS (dv d : Nat) : Prop := ∀ (f : Flt) (la : Option Addr) (ln lc : Nat) (fa : Option Addr) (fn fc : Nat) (sa : Option Addr) (sn sc : Nat) (x : Val) (la2 : Option Addr) (ln2 lc2 : Nat) (fa2 : Option Addr) (fn2 fc2 : Nat) (N : Nat) (w : World), Few N x → FOk d f → ParG w → FinG w → (KF (dv + 2) d).R w (fun _ => True) f [.int .i64 f.op, .string f.path, .int .i64 f.val.kind, .int .i64 f.val.int, .string f.val.text, .slice la ln lc, .slice fa fn fc, .slice sa sn sc] → (KV (dv + 2)).R w (fun _ => True) x [.int .i64 x.kind, .int .i64 x.int, .string x.text, .slice la2 ln2 lc2, .slice fa2 fn2 fc2] →
  Calls Tryz.prog 25 #[.agg #[.int .i64 f.op, .string f.path, .int .i64 f.val.kind, .int .i64 f.val.int, .string f.val.text, .slice la ln lc, .slice fa fn fc, .slice sa sn sc], .agg #[.int .i64 x.kind, .int .i64 x.int, .string x.text, .slice la2 ln2 lc2, .slice fa2 fn2 fc2]] w fun e w' => e = .returned (.bool (matchD (dv + 2) d f x)) ∧ Below w.heap.size w w'

section
variable (dv d : Nat) (ih : MatchS dv d) (x : Val) (la2 : Option Addr) (ln2 lc2 : Nat) (fa2 : Option Addr) (fn2 fc2 : Nat) (N : Nat) (hF : Few N x)
include ih hF
set_option maxRecDepth 100000 in
set_option maxHeartbeats 4000000 in
theorem m1_calls (f : Flt) (la : Option Addr) (ln lc : Nat) (fa : Option Addr) (fn fc : Nat) (sa : Option Addr) (sn sc : Nat) (g : Nat) (w : World) (ho : FOk d f) (G : ParG w) (F : FinG w) (hf : (KF (dv + 2) d).R w (fun _ => True) f [.int .i64 f.op, .string f.path, .int .i64 f.val.kind, .int .i64 f.val.int, .string f.val.text, .slice la ln lc, .slice fa fn fc, .slice sa sn sc]) (hx : (KV (dv + 2)).R w (fun _ => True) x [.int .i64 x.kind, .int .i64 x.int, .string x.text, .slice la2 ln2 lc2, .slice fa2 fn2 fc2]) (hg : w.heap[g]? = some (.cells #[.int .i64 x.kind, .int .i64 x.int, .string x.text, .slice la2 ln2 lc2, .slice fa2 fn2 fc2] 28 (0, 0))) :
    Calls Tryz.prog 49 #[.agg #[.int .i64 f.op, .string f.path, .int .i64 f.val.kind, .int .i64 f.val.int, .string f.val.text, .slice la ln lc, .slice fa fn fc, .slice sa sn sc], .pointer (some ⟨g, 0, none⟩)] w fun e w' => e = .returned (.bool (matchD (dv + 2) d f x)) ∧ Below w.heap.size w w' := by
  have hb := bel_alloc w (.cells #[.int .i64 f.op, .string f.path, .int .i64 f.val.kind, .int .i64 f.val.int, .string f.val.text, .slice la ln lc, .slice fa fn fc, .slice sa sn sc] 42)
  have HM := Ap.of (ih f la ln lc fa fn fc sa sn sc x la2 ln2 lc2 fa2 fn2 fc2 N _ hF ho (G.below hb) (F.below hb) (Knd.below hf hb) (Knd.below hx hb))
  have cx := blk_cells hg
  have lx := blk_lt hg
  clear hb ih hF ho G F hf hx hg
  generalize matchD (dv + 2) d f x = b at *
  generalize f.op = fo at *
  generalize f.path = fp at *
  generalize f.val.kind = fk at *
  generalize f.val.int = fi at *
  generalize f.val.text = ft at *
  go_enter Tryz.func49, Tryz.ntmps49
  go_wp2_with fail
  refine HM.out.mono ?_
  rintro e w1 ⟨rfl, hb⟩
  go_wp2_with fail
  go_ret
  exact ⟨rfl, bel_step (bel_alloc _ _) hb⟩
set_option maxRecDepth 100000 in
set_option maxHeartbeats 4000000 in
theorem m2_calls (f : Flt) (la : Option Addr) (ln lc : Nat) (fa : Option Addr) (fn fc : Nat) (sa : Option Addr) (sn sc : Nat) (g gm : Nat) (w : World) (ho : FOk d f) (G : ParG w) (F : FinG w) (hf : (KF (dv + 2) d).R w (fun _ => True) f [.int .i64 f.op, .string f.path, .int .i64 f.val.kind, .int .i64 f.val.int, .string f.val.text, .slice la ln lc, .slice fa fn fc, .slice sa sn sc]) (hx : (KV (dv + 2)).R w (fun _ => True) x [.int .i64 x.kind, .int .i64 x.int, .string x.text, .slice la2 ln2 lc2, .slice fa2 fn2 fc2]) (hg : w.heap[g]? = some (.cells #[.int .i64 x.kind, .int .i64 x.int, .string x.text, .slice la2 ln2 lc2, .slice fa2 fn2 fc2] 28 (0, 0)))
    (hm : w.heap[gm]? = some (.cells #[.func (.func 49) #[] #[.pointer (some ⟨g, 0, none⟩)]] 91 (0, 0))) :
    Calls Tryz.prog 51 #[.agg #[.int .i64 f.op, .string f.path, .int .i64 f.val.kind, .int .i64 f.val.int, .string f.val.text, .slice la ln lc, .slice fa fn fc, .slice sa sn sc], .pointer (some ⟨gm, 0, none⟩)] w fun e w' => e = .returned (.bool (!matchD (dv + 2) d f x)) ∧ Below w.heap.size w w' := by
  have hb := bel_alloc w (.cells #[.int .i64 f.op, .string f.path, .int .i64 f.val.kind, .int .i64 f.val.int, .string f.val.text, .slice la ln lc, .slice fa fn fc, .slice sa sn sc] 42)
  have HM := Ap.of (m1_calls dv d ih x la2 ln2 lc2 fa2 fn2 fc2 N hF f la ln lc fa fn fc sa sn sc g _ ho (G.below hb) (F.below hb) (Knd.below hf hb) (Knd.below hx hb) (blk_bel hg hb))
  have cm := blk_cells hm
  have lm := blk_lt hm
  clear hb ih hF ho G F hf hx hg hm
  generalize matchD (dv + 2) d f x = b at *
  generalize f.op = fo at *
  generalize f.path = fp at *
  generalize f.val.kind = fk at *
  generalize f.val.int = fi at *
  generalize f.val.text = ft at *
  go_enter Tryz.func51, Tryz.ntmps51
  go_wp2_with fail
  refine HM.out.mono ?_
  rintro e w1 ⟨rfl, hb⟩
  go_wp2_with fail
  go_ret
  exact ⟨rfl, bel_step (bel_alloc _ _) hb⟩
set_option maxRecDepth 100000 in
set_option maxHeartbeats 4000000 in
theorem fidx1_calls (g gm : Nat) (A : Option Addr) (n c : Nat) (fs : List Flt) (w : World) (ho : ∀ f ∈ fs, FOk d f) (G : ParG w) (F : FinG w) (h : Row (KF (dv + 2) d) w (fun _ => True) A n c fs) (hx : (KV (dv + 2)).R w (fun _ => True) x [.int .i64 x.kind, .int .i64 x.int, .string x.text, .slice la2 ln2 lc2, .slice fa2 fn2 fc2]) (hg : w.heap[g]? = some (.cells #[.int .i64 x.kind, .int .i64 x.int, .string x.text, .slice la2 ln2 lc2, .slice fa2 fn2 fc2] 28 (0, 0)))
    (hm : w.heap[gm]? = some (.cells #[.func (.func 49) #[] #[.pointer (some ⟨g, 0, none⟩)]] 91 (0, 0))) :
    Calls Tryz.prog 79 #[.slice A n c, .func (.func 49) #[] #[.pointer (some ⟨g, 0, none⟩)]] w fun e w' => ∃ m : Int, e = .returned (.int .i64 m) ∧ decide (0 ≤ m) = fs.any (fun f => matchD (dv + 2) d f x) ∧ Below w.heap.size w w' := by
  have hlen := h.length
  have hcap := h.cap
  have HG := Ap.of (And.intro hg hm)
  have HX := Ap.of hx
  have H := Ap.of h
  have HLN := Ap.of hlen
  have HO := Ap.of ho
  have GG := Ap.of (And.intro G F)
  have IH := Ap.of ih
  have HFW := Ap.of hF
  clear hg hm hx h hlen ho G F ih hF
  go_enter Tryz.func79, Tryz.ntmps79
  go_wp2_with fail
  go_loopw [8] (fun i wr => ∃ k : Nat, k ≤ n ∧ i = .int .i64 k ∧ Ap ((fs.take k).any (fun f => matchD (dv + 2) d f x) = false) ∧ Ap (Below w.heap.size w wr)) (fun i _ => n - (intOf i).toNat)
  case atStart => exact ⟨0, Nat.zero_le _, rfl, Ap.of (by simp), Ap.of (Below.refl _ _)⟩
  case round =>
    obtain ⟨k, hk, rfl, HN, BL⟩ := hrel
    by_cases hlt : k < n
    · obtain ⟨g2, off, f, la, ln, lc, fa, fn, fc, sa, sn, sc, rfl, hy, hr, c0, c1, c2, c3, c4, c5, c6, c7⟩ := flt_cells (H.out.below BL.out) hlt
      have HY := Ap.of hy
      have hcall := m1_calls dv d IH.out x la2 ln2 lc2 fa2 fn2 fc2 N HFW.out f la ln lc fa fn fc sa sn sc g wr (HO.out f (List.mem_of_getElem? hy)) (GG.out.1.below BL.out) (GG.out.2.below BL.out) hr (Knd.below HX.out BL.out) (blk_bel HG.out.1 BL.out)
      have HC := Ap.of hcall
      clear hy hr hcall
      cases hb : (matchD (dv + 2) d f x) with
      | true =>
        have HB := Ap.of hb
        clear hb
        go_wp2_with fail
        refine HC.out.mono ?_
        rw [HB.out]
        rintro e w1 ⟨rfl, hbl⟩
        go_wp2_with fail
        go_ret
        exact ⟨_, rfl, by rw [any_of_take (fun f => matchD (dv + 2) d f x) HY.out HB.out]; simp, bel_stepB BL.out BL.out.size hbl⟩
      | false =>
        have HB := Ap.of hb
        clear hb
        go_wp2_with fail
        refine HC.out.mono ?_
        rw [HB.out]
        rintro e w1 ⟨rfl, hbl⟩
        go_wp2_with fail
        go_roundw
        case rel => exact ⟨k + 1, by omega, by go_num, Ap.of (by rw [take_any (fun f => matchD (dv + 2) d f x) HY.out, HN.out, HB.out]; rfl), Ap.of (bel_stepB BL.out BL.out.size hbl)⟩
        case measure => simp [intOf]; omega
    · obtain rfl : k = n := by omega
      go_wp2_with fail
      go_ret
      exact ⟨_, rfl, by have := HN.out; rw [← HLN.out, List.take_length] at this; rw [this]; decide, BL.out⟩
set_option maxRecDepth 100000 in
set_option maxHeartbeats 4000000 in
theorem fcont1_calls (g gm : Nat) (A : Option Addr) (n c : Nat) (fs : List Flt) (w : World) (ho : ∀ f ∈ fs, FOk d f) (G : ParG w) (F : FinG w) (h : Row (KF (dv + 2) d) w (fun _ => True) A n c fs) (hx : (KV (dv + 2)).R w (fun _ => True) x [.int .i64 x.kind, .int .i64 x.int, .string x.text, .slice la2 ln2 lc2, .slice fa2 fn2 fc2]) (hg : w.heap[g]? = some (.cells #[.int .i64 x.kind, .int .i64 x.int, .string x.text, .slice la2 ln2 lc2, .slice fa2 fn2 fc2] 28 (0, 0)))
    (hm : w.heap[gm]? = some (.cells #[.func (.func 49) #[] #[.pointer (some ⟨g, 0, none⟩)]] 91 (0, 0))) :
    Calls Tryz.prog 50 #[.slice A n c, .func (.func 49) #[] #[.pointer (some ⟨g, 0, none⟩)]] w fun e w' => e = .returned (.bool (fs.any (fun f => matchD (dv + 2) d f x))) ∧ Below w.heap.size w w' := by
  have HI := Ap.of (fidx1_calls dv d ih x la2 ln2 lc2 fa2 fn2 fc2 N hF g gm A n c fs w ho G F h hx hg hm)
  clear ih hF ho G F h hx hg hm
  go_enter Tryz.func50, Tryz.ntmps50
  go_wp2_with fail
  refine HI.out.mono ?_
  rintro e w1 ⟨m, rfl, hm, hb⟩
  have HM := Ap.of hm
  clear hm
  go_wp2_with fail
  go_ret
  exact ⟨by rw [HM.out]; rfl, hb⟩
set_option maxRecDepth 100000 in
set_option maxHeartbeats 4000000 in
theorem fidx2_calls (g gm : Nat) (A : Option Addr) (n c : Nat) (fs : List Flt) (w : World) (ho : ∀ f ∈ fs, FOk d f) (G : ParG w) (F : FinG w) (h : Row (KF (dv + 2) d) w (fun _ => True) A n c fs) (hx : (KV (dv + 2)).R w (fun _ => True) x [.int .i64 x.kind, .int .i64 x.int, .string x.text, .slice la2 ln2 lc2, .slice fa2 fn2 fc2]) (hg : w.heap[g]? = some (.cells #[.int .i64 x.kind, .int .i64 x.int, .string x.text, .slice la2 ln2 lc2, .slice fa2 fn2 fc2] 28 (0, 0)))
    (hm : w.heap[gm]? = some (.cells #[.func (.func 49) #[] #[.pointer (some ⟨g, 0, none⟩)]] 91 (0, 0))) :
    Calls Tryz.prog 79 #[.slice A n c, .func (.func 51) #[] #[.pointer (some ⟨gm, 0, none⟩)]] w fun e w' => ∃ m : Int, e = .returned (.int .i64 m) ∧ decide (0 ≤ m) = fs.any (fun f => !matchD (dv + 2) d f x) ∧ Below w.heap.size w w' := by
  have hlen := h.length
  have hcap := h.cap
  have HG := Ap.of (And.intro hg hm)
  have HX := Ap.of hx
  have H := Ap.of h
  have HLN := Ap.of hlen
  have HO := Ap.of ho
  have GG := Ap.of (And.intro G F)
  have IH := Ap.of ih
  have HFW := Ap.of hF
  clear hg hm hx h hlen ho G F ih hF
  go_enter Tryz.func79, Tryz.ntmps79
  go_wp2_with fail
  go_loopw [8] (fun i wr => ∃ k : Nat, k ≤ n ∧ i = .int .i64 k ∧ Ap ((fs.take k).any (fun f => !matchD (dv + 2) d f x) = false) ∧ Ap (Below w.heap.size w wr)) (fun i _ => n - (intOf i).toNat)
  case atStart => exact ⟨0, Nat.zero_le _, rfl, Ap.of (by simp), Ap.of (Below.refl _ _)⟩
  case round =>
    obtain ⟨k, hk, rfl, HN, BL⟩ := hrel
    by_cases hlt : k < n
    · obtain ⟨g2, off, f, la, ln, lc, fa, fn, fc, sa, sn, sc, rfl, hy, hr, c0, c1, c2, c3, c4, c5, c6, c7⟩ := flt_cells (H.out.below BL.out) hlt
      have HY := Ap.of hy
      have hcall := m2_calls dv d IH.out x la2 ln2 lc2 fa2 fn2 fc2 N HFW.out f la ln lc fa fn fc sa sn sc g gm wr (HO.out f (List.mem_of_getElem? hy)) (GG.out.1.below BL.out) (GG.out.2.below BL.out) hr (Knd.below HX.out BL.out) (blk_bel HG.out.1 BL.out) (blk_bel HG.out.2 BL.out)
      have HC := Ap.of hcall
      clear hy hr hcall
      cases hb : (!matchD (dv + 2) d f x) with
      | true =>
        have HB := Ap.of hb
        clear hb
        go_wp2_with fail
        refine HC.out.mono ?_
        rw [HB.out]
        rintro e w1 ⟨rfl, hbl⟩
        go_wp2_with fail
        go_ret
        exact ⟨_, rfl, by rw [any_of_take (fun f => !matchD (dv + 2) d f x) HY.out HB.out]; simp, bel_stepB BL.out BL.out.size hbl⟩
      | false =>
        have HB := Ap.of hb
        clear hb
        go_wp2_with fail
        refine HC.out.mono ?_
        rw [HB.out]
        rintro e w1 ⟨rfl, hbl⟩
        go_wp2_with fail
        go_roundw
        case rel => exact ⟨k + 1, by omega, by go_num, Ap.of (by rw [take_any (fun f => !matchD (dv + 2) d f x) HY.out, HN.out, HB.out]; rfl), Ap.of (bel_stepB BL.out BL.out.size hbl)⟩
        case measure => simp [intOf]; omega
    · obtain rfl : k = n := by omega
      go_wp2_with fail
      go_ret
      exact ⟨_, rfl, by have := HN.out; rw [← HLN.out, List.take_length] at this; rw [this]; decide, BL.out⟩
set_option maxRecDepth 100000 in
set_option maxHeartbeats 4000000 in
theorem fcont2_calls (g gm : Nat) (A : Option Addr) (n c : Nat) (fs : List Flt) (w : World) (ho : ∀ f ∈ fs, FOk d f) (G : ParG w) (F : FinG w) (h : Row (KF (dv + 2) d) w (fun _ => True) A n c fs) (hx : (KV (dv + 2)).R w (fun _ => True) x [.int .i64 x.kind, .int .i64 x.int, .string x.text, .slice la2 ln2 lc2, .slice fa2 fn2 fc2]) (hg : w.heap[g]? = some (.cells #[.int .i64 x.kind, .int .i64 x.int, .string x.text, .slice la2 ln2 lc2, .slice fa2 fn2 fc2] 28 (0, 0)))
    (hm : w.heap[gm]? = some (.cells #[.func (.func 49) #[] #[.pointer (some ⟨g, 0, none⟩)]] 91 (0, 0))) :
    Calls Tryz.prog 50 #[.slice A n c, .func (.func 51) #[] #[.pointer (some ⟨gm, 0, none⟩)]] w fun e w' => e = .returned (.bool (fs.any (fun f => !matchD (dv + 2) d f x))) ∧ Below w.heap.size w w' := by
  have HI := Ap.of (fidx2_calls dv d ih x la2 ln2 lc2 fa2 fn2 fc2 N hF g gm A n c fs w ho G F h hx hg hm)
  clear ih hF ho G F h hx hg hm
  go_enter Tryz.func50, Tryz.ntmps50
  go_wp2_with fail
  refine HI.out.mono ?_
  rintro e w1 ⟨m, rfl, hm, hb⟩
  have HM := Ap.of hm
  clear hm
  go_wp2_with fail
  go_ret
  exact ⟨by rw [HM.out]; rfl, hb⟩
end

set_option maxRecDepth 100000 in
set_option maxHeartbeats 4000000 in
theorem match_step (dv d : Nat) (ih : MatchS dv d) : MatchS dv (d + 1) := by
  intro f la ln lc fa fn fc sa sn sc x la2 ln2 lc2 fa2 fn2 fc2 N w hF ho G F hf hx
  have hb2 := bel_step (bel_alloc w (.cells #[.int .i64 f.op, .string f.path, .int .i64 f.val.kind, .int .i64 f.val.int, .string f.val.text, .slice la ln lc, .slice fa fn fc, .slice sa sn sc] 42)) (bel_alloc _ (.cells #[.int .i64 x.kind, .int .i64 x.int, .string x.text, .slice la2 ln2 lc2, .slice fa2 fn2 fc2] 28))
  have hb3 := bel_step hb2 (bel_alloc _ (.cells #[.func (.func 49) #[] #[.pointer (some ⟨w.heap.size + 1, 0, none⟩)]] 91))
  have bx := blk_old (o' := .cells #[.func (.func 49) #[] #[.pointer (some ⟨w.heap.size + 1, 0, none⟩)]] 91) (blk_new (w := w.alloc (.cells #[.int .i64 f.op, .string f.path, .int .i64 f.val.kind, .int .i64 f.val.int, .string f.val.text, .slice la ln lc, .slice fa fn fc, .slice sa sn sc] 42)) (k := w.heap.size + 1) (o := .cells #[.int .i64 x.kind, .int .i64 x.int, .string x.text, .slice la2 ln2 lc2, .slice fa2 fn2 fc2] 28) (by simp))
  have bf := blk_old (o' := .cells #[.func (.func 49) #[] #[.pointer (some ⟨w.heap.size + 1, 0, none⟩)]] 91) (blk_old (o' := .cells #[.int .i64 x.kind, .int .i64 x.int, .string x.text, .slice la2 ln2 lc2, .slice fa2 fn2 fc2] 28) (blk_new (w := w) (k := w.heap.size) (o := .cells #[.int .i64 f.op, .string f.path, .int .i64 f.val.kind, .int .i64 f.val.int, .string f.val.text, .slice la ln lc, .slice fa fn fc, .slice sa sn sc] 42) rfl))
  have bm := blk_new (w := (w.alloc (.cells #[.int .i64 f.op, .string f.path, .int .i64 f.val.kind, .int .i64 f.val.int, .string f.val.text, .slice la ln lc, .slice fa fn fc, .slice sa sn sc] 42)).alloc (.cells #[.int .i64 x.kind, .int .i64 x.int, .string x.text, .slice la2 ln2 lc2, .slice fa2 fn2 fc2] 28)) (k := w.heap.size + 1 + 1) (o := .cells #[.func (.func 49) #[] #[.pointer (some ⟨w.heap.size + 1, 0, none⟩)]] 91) (by simp)
  obtain ⟨_, _, hfv, hfs⟩ := KF_parts hf
  have HC1 := Ap.of (fcont1_calls dv d ih x la2 ln2 lc2 fa2 fn2 fc2 N hF (w.heap.size + 1) (w.heap.size + 1 + 1) sa sn sc f.subs _ ho.2 (G.below hb3) (F.below hb3) (hfs.below hb3) (Knd.below hx hb3) bx bm)
  have HC2 := Ap.of (fcont2_calls dv d ih x la2 ln2 lc2 fa2 fn2 fc2 N hF (w.heap.size + 1) (w.heap.size + 1 + 1) sa sn sc f.subs _ ho.2 (G.below hb3) (F.below hb3) (hfs.below hb3) (Knd.below hx hb3) bx bm)
  have HFO := Ap.of (found_calls dv x la2 ln2 lc2 fa2 fn2 fc2 f.path ho.1 _ hF (G.below hb3) (F.below hb3) (Knd.below hx hb3))
  have HFV := Ap.of hfv
  have HB3 := Ap.of hb3
  have HBF := Ap.of bf
  have cx := blk_cells bx
  have lx := blk_lt bx
  have HSZ := Ap.of (show (((w.alloc (.cells #[.int .i64 f.op, .string f.path, .int .i64 f.val.kind, .int .i64 f.val.int, .string f.val.text, .slice la ln lc, .slice fa fn fc, .slice sa sn sc] 42)).alloc (.cells #[.int .i64 x.kind, .int .i64 x.int, .string x.text, .slice la2 ln2 lc2, .slice fa2 fn2 fc2] 28)).alloc (.cells #[.func (.func 49) #[] #[.pointer (some ⟨w.heap.size + 1, 0, none⟩)]] 91)).heap.size = w.heap.size + 3 by simp)
  clear hb2 hb3 bx bf bm hfv hfs hf hx hF ho G F ih cx lx
  by_cases h0 : f.op = 0
  · have hmd : matchD (dv + 2) (d + 1) f x = !(f.subs.any (fun s => !matchD (dv + 2) d s x)) := by
      rw [matchD, if_pos h0, List.all_eq_not_any_not]
    rw [hmd]
    clear hmd HFO HC1 HBF HFV
    generalize f.op = fo at *
    subst h0
    generalize f.subs.any (fun s => !matchD (dv + 2) d s x) = b at *
    generalize f.path = fp at *
    generalize f.val.kind = fk at *
    generalize f.val.int = fi at *
    generalize f.val.text = ft at *
    generalize x.kind = xk at *
    generalize x.int = xi at *
    generalize x.text = xt at *
    go_enter Tryz.func25, Tryz.ntmps25
    go_wp2_with fail
    refine HC2.out.mono ?_
    rintro e w1 ⟨rfl, hb⟩
    go_wp2_with fail
    go_ret
    exact ⟨rfl, bel_step HB3.out hb⟩
  by_cases h1 : f.op = 1
  · have hmd : matchD (dv + 2) (d + 1) f x = f.subs.any (fun s => matchD (dv + 2) d s x) := by
      rw [matchD, if_neg h0, if_pos h1]
    rw [hmd]
    clear hmd HFO HC2 HBF HFV h0
    generalize f.op = fo at *
    subst h1
    generalize f.subs.any (fun s => matchD (dv + 2) d s x) = b at *
    generalize f.path = fp at *
    generalize f.val.kind = fk at *
    generalize f.val.int = fi at *
    generalize f.val.text = ft at *
    generalize x.kind = xk at *
    generalize x.int = xi at *
    generalize x.text = xt at *
    go_enter Tryz.func25, Tryz.ntmps25
    go_wp2_with fail
    refine HC1.out.mono ?_
    rintro e w1 ⟨rfl, hb⟩
    go_wp2_with fail
    go_ret
    exact ⟨rfl, bel_step HB3.out hb⟩
  have hmd : matchD (dv + 2) (d + 1) f x = condK (dv + 2) f (foundV x f.path) := by rw [matchD, if_neg h0, if_neg h1]; rfl
  rw [hmd]
  have t0 : (f.op == 0) = false := by simpa using h0
  have t1 : (f.op == 1) = false := by simpa using h1
  clear hmd HC1 HC2 h0 h1
  generalize foundV x f.path = o at *
  have HONE := Ap.of (fun (y : Val) (l5 : Option Addr) (m5 c5 : Nat) (g5 : Option Addr) (f5 h5 : Nat) (W : World) (hW : Below w.heap.size w W) (hy : (KV (dv + 2)).R W (fun _ => True) y [.int .i64 y.kind, .int .i64 y.int, .string y.text, .slice l5 m5 c5, .slice g5 f5 h5]) => fone_calls dv f la ln lc fa fn fc sa sn sc y l5 m5 c5 g5 f5 h5 W (Knd.below HFV.out hW) hy)
  have HC9 := Ap.of (show f.op = 9 → condK (dv + 2) f o = (o.isSome == (f.val.int == 1)) from fun h => if_pos h)
  have HCN := Ap.of (show f.op ≠ 9 → o = none → condK (dv + 2) f o = (f.op == 3) from fun h e => by rw [e]; exact if_neg h)
  have HCS := Ap.of (show f.op ≠ 9 → ∀ z, o = some z → condK (dv + 2) f o = oneD (dv + 2) f z from fun h z e => by rw [e]; exact if_neg h)
  clear HFV
  generalize condK (dv + 2) f o = res at *
  generalize hfo : f.op = fo at *
  generalize f.path = fp at *
  generalize f.val.kind = fk at *
  generalize f.val.int = fi at *
  generalize f.val.text = ft at *
  generalize x.kind = xk at *
  generalize x.int = xi at *
  generalize x.text = xt at *
  by_cases h9 : fo = 9
  · have HR9 := Ap.of (HC9.out h9)
    clear HC9 HCN HCS
    subst h9
    go_enter Tryz.func25, Tryz.ntmps25
    go_wp2_with fail
    refine HFO.out.mono ?_
    rintro e w1 ⟨y, l5, m5, c5, g5, f5, h5, rfl, hy, hr, hb⟩
    have bf1 := blk_bel HBF.out hb
    have cf := blk_cells bf1
    have lf := blk_lt bf1
    have HB4 := Ap.of (bel_step HB3.out hb)
    clear hy hr hb bf1
    go_wp2_with fail
    go_ret
    exact ⟨by rw [HR9.out]; rfl, bel_step HB4.out (bel_alloc _ _)⟩
  have t9 : (fo == 9) = false := by simpa using h9
  have HN9 := Ap.of h9
  clear h9
  cases ho : o.isSome
  · have ho' : o = none := by cases o with | none => rfl | some v => cases ho
    have HR := Ap.of (show res = (fo == 3) from HCN.out HN9.out ho')
    clear ho'
    go_enter Tryz.func25, Tryz.ntmps25
    go_wp2_with fail
    refine HFO.out.mono ?_
    rintro e w1 ⟨y, l5, m5, c5, g5, f5, h5, rfl, hy, hr, hb⟩
    have bf1 := blk_bel HBF.out hb
    have cf := blk_cells bf1
    have lf := blk_lt bf1
    have HB4 := Ap.of (bel_step HB3.out hb)
    clear hy hr hb bf1
    go_wp2_with fail
    go_ret
    exact ⟨by rw [HR.out]; rfl, bel_step HB4.out (bel_alloc _ _)⟩
  · obtain ⟨z, hz⟩ := Option.isSome_iff_exists.1 ho
    have HR := Ap.of (show res = oneD (dv + 2) f z from HCS.out HN9.out z hz)
    have HZ := Ap.of hz
    clear hz
    go_enter Tryz.func25, Tryz.ntmps25
    go_wp2_with fail
    refine HFO.out.mono ?_
    rintro e w1 ⟨y, l5, m5, c5, g5, f5, h5, rfl, hy, hr, hb⟩
    have hyz : y = z := by rw [hy, HZ.out]; rfl
    subst hyz
    have bf1 := blk_bel HBF.out hb
    have cf := blk_cells bf1
    have lf := blk_lt bf1
    have HB4 := Ap.of (bel_step HB3.out hb)
    have HO := Ap.of (HONE.out y l5 m5 c5 g5 f5 h5 (w1.alloc (.cells #[.int .i64 y.kind, .int .i64 y.int, .string y.text, .slice l5 m5 c5, .slice g5 f5 h5] 28)) (bel_step HB4.out (bel_alloc _ _)) (Knd.below hr (bel_alloc _ _)))
    clear hy hr hb bf1 HONE
    generalize oneD (dv + 2) f y = r at *
    go_wp2_with fail
    refine HO.out.mono ?_
    rintro e w2 ⟨rfl, hb⟩
    go_wp2_with fail
    go_ret
    exact ⟨by rw [HR.out]; rfl, bel_step (bel_step HB4.out (bel_alloc _ _)) hb⟩
theorem match_calls (dv : Nat) : ∀ d, MatchS dv d
  | 0 => fun _ _ _ _ _ _ _ _ _ _ _ _ _ _ _ _ _ _ _ _ h => h.elim
  | d + 1 => match_step dv d (match_calls dv d)
end Go.Proofs.YtlomieopppndeaaGreatDoor
