/- roundelaylaw03.Cmp, sign, Texts: how values stand to one another. -/
import Derived.Test.YtlomieopppndeaaGreatDoorPlanIn
import Derived.Test.YtlomieopppndeaaGreatDoorOpens
import Derived.Deep.RegionHeld3
namespace Go.Proofs.YtlomieopppndeaaGreatDoor
open Go.RowKit

theorem cmpList_at {α : Type} (c : α → α → Int) {xs ys : List α} {k : Nat} {a b : α} (ha : xs[k]? = some a) (hb : ys[k]? = some b) : cmpList c (xs.drop k) (ys.drop k) = if c a b = 0 then cmpList c (xs.drop (k + 1)) (ys.drop (k + 1)) else c a b := by
  have h1 : k < xs.length := (List.getElem?_eq_some_iff.1 ha).1
  have h2 : k < ys.length := (List.getElem?_eq_some_iff.1 hb).1
  rw [List.getElem?_eq_getElem h1] at ha
  rw [List.getElem?_eq_getElem h2] at hb
  injection ha with ha
  injection hb with hb
  rw [List.drop_eq_getElem_cons h1, List.drop_eq_getElem_cons h2, ha, hb, cmpList_cons]
theorem cmpList_end {α : Type} (c : α → α → Int) {xs ys : List α} {k : Nat} (h1 : k ≤ xs.length) (h2 : k ≤ ys.length) (h : ¬ (k < xs.length ∧ k < ys.length)) : cmpList c (xs.drop k) (ys.drop k) = cmpI xs.length ys.length := by
  by_cases hx : k < xs.length
  · have hy : ys.length = k := by omega
    rw [List.drop_eq_getElem_cons hx, show ys.drop k = [] from List.drop_eq_nil_of_le (by omega)]
    unfold cmpI
    rw [if_neg (by omega), if_pos (by omega)]
    rfl
  · have hx' : xs.length = k := by omega
    rw [show xs.drop k = [] from List.drop_eq_nil_of_le (by omega)]
    by_cases hy : k < ys.length
    · rw [List.drop_eq_getElem_cons hy]
      unfold cmpI
      rw [if_pos (by omega)]
      rfl
    · rw [show ys.drop k = [] from List.drop_eq_nil_of_le (by omega)]
      unfold cmpI
      rw [if_neg (by omega), if_neg (by omega)]
      rfl
theorem sign_calls (a b : Int) (w : World) : Calls Tryz.prog 122 #[.int .i64 a, .int .i64 b] w fun e w' => e = .returned (.int .i64 (cmpI a b)) ∧ w' = w := by
  unfold cmpI
  rcases Int.lt_trichotomy a b with h | h | h
  · have h1 : decide (a < b) = true := by simpa using h
    rw [if_pos h]
    go_enter Tryz.func122, Tryz.ntmps122
    go_wp2_with fail
    go_ret
    exact ⟨rfl, rfl⟩
  · subst h
    rw [if_neg (by omega), if_neg (by omega)]
    have h1 : decide (a < a) = false := by simp
    go_enter Tryz.func122, Tryz.ntmps122
    go_wp2_with fail
    go_ret
    exact ⟨rfl, rfl⟩
  · have h0 : ¬ a < b := by omega
    have h1 : decide (a < b) = false := by simpa using h0
    have h2 : decide (b < a) = true := by simpa using h
    rw [if_neg h0, if_pos h]
    go_enter Tryz.func122, Tryz.ntmps122
    go_wp2_with fail
    go_ret
    exact ⟨rfl, rfl⟩
theorem texts_calls (a b : ByteArray) (w : World) : Calls Tryz.prog 123 #[.string a, .string b] w fun e w' => e = .returned (.int .i64 (cmpB a b)) ∧ w' = w := by
  have hl : ∀ x y : ByteArray, Op.bytesLess x.toList y.toList = decide (ltA x y) := fun x y => by rw [Proofs.bytesLess_eq, Lib.toList_data, Lib.toList_data]; rfl
  rcases ltA_tri a b with h | h | h
  · have h1 : Op.bytesLess a.toList b.toList = true := by rw [hl]; simpa using h
    have hc : cmpB a b = -1 := (cmp_lt _ _).2 h
    have HC := Ap.of hc
    clear hc h hl
    generalize cmpB a b = r at *
    go_enter Tryz.func123, Tryz.ntmps123
    go_wp2_with fail
    go_ret
    exact ⟨by rw [HC.out]; rfl, rfl⟩
  · subst h
    have h1 : Op.bytesLess a.toList a.toList = false := by rw [hl]; simpa using ltA_irrefl a
    have hc : cmpB a a = 0 := compareBytes_self _
    have HC := Ap.of hc
    clear hc hl
    generalize cmpB a a = r at *
    go_enter Tryz.func123, Tryz.ntmps123
    go_wp2_with fail
    go_ret
    exact ⟨by rw [HC.out]; rfl, rfl⟩
  · have h0 : ¬ ltA a b := fun h' => ltA_irrefl _ (ltA_trans h h')
    have h1 : Op.bytesLess a.toList b.toList = false := by rw [hl]; simpa using h0
    have hne : ¬ a.toList = b.toList := fun e => ltA_irrefl a (by
      have : a = b := ba_ext (by rw [Lib.toList_data, Lib.toList_data] at e; exact e)
      rw [this] at h ⊢
      exact h)
    have h2 : (a.toList == b.toList) = false := by simpa using hne
    have hc : cmpB a b = 1 := by
      rcases compareBytes_is a.data.toList b.data.toList with e | e | e
      · exact (h0 ((cmp_lt _ _).1 e)).elim
      · exact (hne (by rw [Lib.toList_data, Lib.toList_data]; exact cmp_zero _ _ e)).elim
      · exact e
    have HC := Ap.of hc
    clear hc h h0 hl
    generalize cmpB a b = r at *
    go_enter Tryz.func123, Tryz.ntmps123
    go_wp2_with fail
    go_ret
    exact ⟨by rw [HC.out]; rfl, rfl⟩

def LCmpS (d : Nat) : Prop := ∀ (x y : Val) (la : Option Addr) (ln lc : Nat) (fa : Option Addr) (fn fc : Nat) (la2 : Option Addr) (ln2 lc2 : Nat) (fa2 : Option Addr) (fn2 fc2 : Nat) (ok : Nat → Prop) (w : World), (KV d).R w ok x [.int .i64 x.kind, .int .i64 x.int, .string x.text, .slice la ln lc, .slice fa fn fc] → (KV d).R w ok y [.int .i64 y.kind, .int .i64 y.int, .string y.text, .slice la2 ln2 lc2, .slice fa2 fn2 fc2] →
  Calls Tryz.prog 93 #[.agg #[.int .i64 x.kind, .int .i64 x.int, .string x.text, .slice la ln lc, .slice fa fn fc], .agg #[.int .i64 y.kind, .int .i64 y.int, .string y.text, .slice la2 ln2 lc2, .slice fa2 fn2 fc2]] w fun e w' => e = .returned (.int .i64 (cmpD d x y)) ∧ Below w.heap.size w w'
set_option maxRecDepth 100000 in
set_option maxHeartbeats 4000000 in
theorem lcmp_list (d : Nat) (ih : LCmpS d) (x y : Val) (la : Option Addr) (ln lc : Nat) (fa : Option Addr) (fn fc : Nat) (la2 : Option Addr) (ln2 lc2 : Nat) (fa2 : Option Addr) (fn2 fc2 : Nat) (ok : Nat → Prop) (w : World) (hk : x.kind = 4) (hk2 : y.kind = 4) (hx : (KV (d + 1)).R w ok x [.int .i64 x.kind, .int .i64 x.int, .string x.text, .slice la ln lc, .slice fa fn fc]) (hy : (KV (d + 1)).R w ok y [.int .i64 y.kind, .int .i64 y.int, .string y.text, .slice la2 ln2 lc2, .slice fa2 fn2 fc2]) :
    Calls Tryz.prog 93 #[.agg #[.int .i64 x.kind, .int .i64 x.int, .string x.text, .slice la ln lc, .slice fa fn fc], .agg #[.int .i64 y.kind, .int .i64 y.int, .string y.text, .slice la2 ln2 lc2, .slice fa2 fn2 fc2]] w fun e w' => e = .returned (.int .i64 (cmpList (cmpD d) x.list y.list)) ∧ Below w.heap.size w w' := by
  have hxl := (KV_parts hx).2.2.2.1
  have hyl := (KV_parts hy).2.2.2.1
  have hcx := hxl.cap
  have hcy := hyl.cap
  have hlx := hxl.length
  have hly := hyl.length
  have HXL := Ap.of hxl
  have HYL := Ap.of hyl
  have HLX := Ap.of hlx
  have HLY := Ap.of hly
  have IH := Ap.of ih
  clear hx hy hxl hyl hlx hly ih
  generalize x.list = xs at *
  generalize y.list = ys at *
  generalize hR : cmpList (cmpD d) xs ys = res
  have HR := Ap.of hR
  clear hR
  generalize x.int = xi at *
  generalize x.text = xt at *
  generalize x.kind = xk at *
  generalize y.int = yi at *
  generalize y.text = yt at *
  generalize y.kind = yk at *
  subst hk hk2
  go_enter Tryz.func93, Tryz.ntmps93
  go_wp2_with fail
  go_loopw [5] (fun vi wr => ∃ k : Nat, k ≤ ln ∧ k ≤ ln2 ∧ vi = .int .i64 k ∧ Ap (res = cmpList (cmpD d) (xs.drop k) (ys.drop k)) ∧ Ap (wr.heap[w.heap.size]? = some (.cells #[.int .i64 4, .int .i64 xi, .string xt, .slice la ln lc, .slice fa fn fc] 28 (0, 0))) ∧
    Ap (wr.heap[w.heap.size + 1]? = some (.cells #[.int .i64 4, .int .i64 yi, .string yt, .slice la2 ln2 lc2, .slice fa2 fn2 fc2] 28 (0, 0))) ∧ Ap (Below w.heap.size w wr)) (fun vi _ => ln - (intOf vi).toNat)
  case atStart => exact ⟨0, Nat.zero_le _, Nat.zero_le _, rfl, Ap.of HR.out.symm, Ap.of (blk_old (blk_new rfl)), Ap.of (blk_new (by simp)), Ap.of (bel_step (bel_alloc _ _) (bel_alloc _ _))⟩
  case round =>
    obtain ⟨k, hk1, hk2, rfl, HC, BX, BY, BL⟩ := hrel
    have cx := blk_cells BX.out
    have cy := blk_cells BY.out
    have lx := blk_lt BX.out
    have ly := blk_lt BY.out
    by_cases hlt : k < ln
    · have hlt' : (k : Int) < (ln : Int) := by omega
      by_cases hlt2 : k < ln2
      · have hlt2' : (k : Int) < (ln2 : Int) := by omega
        obtain ⟨d, rfl⟩ : ∃ d', d = d' + 1 := by
          cases d with
          | zero =>
            obtain ⟨_, _, _, _, _, _, hh, _⟩ := HXL.out.elem hlt
            exact hh.elim
          | succ d' => exact ⟨d', rfl⟩
        obtain ⟨g1, o1, a, l3, n3, c3, f3, m3, d3, rfl, hxa, hra, a0, a1, a2, a3, a4⟩ := val_cells (Row.below HXL.out BL.out) hlt
        obtain ⟨g2, o2, b, l4, n4, c4, f4, m4, d4, rfl, hyb, hrb, b0, b1, b2, b3, b4⟩ := val_cells (Row.below HYL.out BL.out) hlt2
        have lg1 := World.block_lt_of_cell? _ _ a0
        have lg2 := World.block_lt_of_cell? _ _ b0
        have HSTEP := Ap.of (cmpList_at (cmpD (d + 1)) hxa hyb)
        obtain ⟨wo, rfl⟩ : ∃ wo : World, wo = wr := ⟨_, rfl⟩
        have HCL := Ap.of (fun W (hW : Below wo.heap.size wo W) => IH.out a b l3 n3 c3 f3 m3 d3 l4 n4 c4 f4 m4 d4 ok W (Knd.below hra hW) (Knd.below hrb hW))
        have hks : ∀ W, Below wo.heap.size wo W → (Below wo.heap.size wo W ∧ W.cell? ⟨w.heap.size, 3, none⟩ = some (.slice (some ⟨g1, o1, none⟩) ln lc) ∧ W.cell? ⟨w.heap.size + 1, 3, none⟩ = some (.slice (some ⟨g2, o2, none⟩) ln2 lc2) ∧ W.cell? ⟨g1, o1 + k * 5, none⟩ = some (.int .i64 a.kind) ∧ W.cell? ⟨g1, o1 + k * 5 + 1, none⟩ = some (.int .i64 a.int) ∧ W.cell? ⟨g1, o1 + k * 5 + 2, none⟩ = some (.string a.text) ∧ W.cell? ⟨g1, o1 + k * 5 + 3, none⟩ = some (.slice l3 n3 c3) ∧ W.cell? ⟨g1, o1 + k * 5 + 4, none⟩ = some (.slice f3 m3 d3) ∧ W.cell? ⟨g2, o2 + k * 5, none⟩ = some (.int .i64 b.kind) ∧ W.cell? ⟨g2, o2 + k * 5 + 1, none⟩ = some (.int .i64 b.int) ∧ W.cell? ⟨g2, o2 + k * 5 + 2, none⟩ = some (.string b.text) ∧ W.cell? ⟨g2, o2 + k * 5 + 3, none⟩ = some (.slice l4 n4 c4) ∧ W.cell? ⟨g2, o2 + k * 5 + 4, none⟩ = some (.slice f4 m4 d4)) := fun W ho => by
          have t : ∀ g o v, wo.cell? ⟨g, o, none⟩ = some v → W.cell? ⟨g, o, none⟩ = some v := fun g o v hv => (ho.cell (p := ⟨g, o, none⟩) (World.block_lt_of_cell? _ _ hv)).trans hv
          exact ⟨ho, t _ _ _ (cx 3), t _ _ _ (cy 3), t _ _ _ a0, t _ _ _ a1, t _ _ _ a2, t _ _ _ a3, t _ _ _ a4, t _ _ _ b0, t _ _ _ b1, t _ _ _ b2, t _ _ _ b3, t _ _ _ b4⟩
        have KS := Ap.of hks
        have i1 : (0 : Int) ≤ (k : Int) := by omega
        clear hks hra hrb hxa hyb
        go_wp2_with fail
        go_region_held3 (fun W => Below wo.heap.size wo W ∧ W.cell? ⟨w.heap.size, 3, none⟩ = some (.slice (some ⟨g1, o1, none⟩) ln lc) ∧ W.cell? ⟨w.heap.size + 1, 3, none⟩ = some (.slice (some ⟨g2, o2, none⟩) ln2 lc2) ∧ W.cell? ⟨g1, o1 + k * 5, none⟩ = some (.int .i64 a.kind) ∧ W.cell? ⟨g1, o1 + k * 5 + 1, none⟩ = some (.int .i64 a.int) ∧ W.cell? ⟨g1, o1 + k * 5 + 2, none⟩ = some (.string a.text) ∧ W.cell? ⟨g1, o1 + k * 5 + 3, none⟩ = some (.slice l3 n3 c3) ∧ W.cell? ⟨g1, o1 + k * 5 + 4, none⟩ = some (.slice f3 m3 d3) ∧ W.cell? ⟨g2, o2 + k * 5, none⟩ = some (.int .i64 b.kind) ∧ W.cell? ⟨g2, o2 + k * 5 + 1, none⟩ = some (.int .i64 b.int) ∧ W.cell? ⟨g2, o2 + k * 5 + 2, none⟩ = some (.string b.text) ∧ W.cell? ⟨g2, o2 + k * 5 + 3, none⟩ = some (.slice l4 n4 c4) ∧ W.cell? ⟨g2, o2 + k * 5 + 4, none⟩ = some (.slice f4 m4 d4))
          (first
          | with_reducible assumption
          | (with_reducible (refine KS.out _ ?_; exact Below.refl _ _))
          | (with_reducible (refine KS.out _ ?_; apply Below.drew; exact Below.refl _ _))
          | (with_reducible (refine KS.out _ ?_; apply bel_stepB _ _ hb3; exact And.left (by assumption); exact (Below.size (And.left (by assumption))))))
          (first
            | (go_at_call 93; (with_reducible refine (HCL.out _ (And.left (by assumption))).mono ?_); rintro e w5 ⟨rfl, hb3⟩))
        all_goals
          have HB5 := Ap.of (show Below wo.heap.size wo w5 from And.left (by assumption))
          have BX5 := Ap.of (blk_bel BX.out HB5.out)
          have BY5 := Ap.of (blk_bel BY.out HB5.out)
          have BL5 := Ap.of (bel_stepB BL.out BL.out.size HB5.out)
          clear hb3 KS HCL a0 a1 a2 a3 a4 b0 b1 b2 b3 b4 cx cy
          generalize cmpD (d + 1) a b = r at *
          by_cases hr : r = 0
          · subst hr
            go_wp2_with fail
            go_roundw
            case rel => exact ⟨k + 1, by omega, by omega, by go_num, Ap.of (by rw [HC.out, HSTEP.out, if_pos rfl]), BX5, BY5, BL5⟩
            case measure => simp [intOf]; omega
          · have hr' : (r == 0) = false := by simpa using hr
            go_wp2_with fail
            go_ret
            exact ⟨by rw [HC.out, HSTEP.out, if_neg hr]; rfl, BL5.out⟩
      · have hlt2' : ¬ (k : Int) < (ln2 : Int) := by omega
        have HE := Ap.of (cmpList_end (cmpD d) (xs := xs) (ys := ys) (k := k) (by rw [HLX.out]; omega) (by rw [HLY.out]; omega) (by rw [HLX.out, HLY.out]; omega))
        go_wp2_with fail
        refine (sign_calls _ _ _).mono ?_
        rintro e w5 ⟨rfl, rfl⟩
        go_wp2_with fail
        go_ret
        exact ⟨by rw [HC.out, HE.out, HLX.out, HLY.out]; rfl, BL.out⟩
    · have hlt' : ¬ (k : Int) < (ln : Int) := by omega
      have HE := Ap.of (cmpList_end (cmpD d) (xs := xs) (ys := ys) (k := k) (by rw [HLX.out]; omega) (by rw [HLY.out]; omega) (by rw [HLX.out]; omega))
      go_wp2_with fail
      refine (sign_calls _ _ _).mono ?_
      rintro e w5 ⟨rfl, rfl⟩
      go_wp2_with fail
      go_ret
      exact ⟨by rw [HC.out, HE.out, HLX.out, HLY.out]; rfl, BL.out⟩

set_option maxRecDepth 100000 in
set_option maxHeartbeats 4000000 in
theorem lcmp_fields (d : Nat) (ih : LCmpS d) (x y : Val) (la : Option Addr) (ln lc : Nat) (fa : Option Addr) (fn fc : Nat) (la2 : Option Addr) (ln2 lc2 : Nat) (fa2 : Option Addr) (fn2 fc2 : Nat) (ok : Nat → Prop) (w : World) (hk : x.kind = 5) (hk2 : y.kind = 5) (hx : (KV (d + 1)).R w ok x [.int .i64 x.kind, .int .i64 x.int, .string x.text, .slice la ln lc, .slice fa fn fc]) (hy : (KV (d + 1)).R w ok y [.int .i64 y.kind, .int .i64 y.int, .string y.text, .slice la2 ln2 lc2, .slice fa2 fn2 fc2]) :
    Calls Tryz.prog 93 #[.agg #[.int .i64 x.kind, .int .i64 x.int, .string x.text, .slice la ln lc, .slice fa fn fc], .agg #[.int .i64 y.kind, .int .i64 y.int, .string y.text, .slice la2 ln2 lc2, .slice fa2 fn2 fc2]] w fun e w' => e = .returned (.int .i64 (cmpList (cmpF (cmpD d)) x.fields y.fields)) ∧ Below w.heap.size w w' := by
  have hxl := (KV_parts hx).2.2.2.2
  have hyl := (KV_parts hy).2.2.2.2
  have hcx := hxl.cap
  have hcy := hyl.cap
  have hlx := hxl.length
  have hly := hyl.length
  have HXL := Ap.of hxl
  have HYL := Ap.of hyl
  have HLX := Ap.of hlx
  have HLY := Ap.of hly
  have IH := Ap.of ih
  clear hx hy hxl hyl hlx hly ih
  generalize x.fields = xs at *
  generalize y.fields = ys at *
  generalize hR : cmpList (cmpF (cmpD d)) xs ys = res
  have HR := Ap.of hR
  clear hR
  generalize x.int = xi at *
  generalize x.text = xt at *
  generalize x.kind = xk at *
  generalize y.int = yi at *
  generalize y.text = yt at *
  generalize y.kind = yk at *
  subst hk hk2
  go_enter Tryz.func93, Tryz.ntmps93
  go_wp2_with fail
  go_loopw [7] (fun vi wr => ∃ k : Nat, k ≤ fn ∧ k ≤ fn2 ∧ vi = .int .i64 k ∧ Ap (res = cmpList (cmpF (cmpD d)) (xs.drop k) (ys.drop k)) ∧ Ap (wr.heap[w.heap.size]? = some (.cells #[.int .i64 5, .int .i64 xi, .string xt, .slice la ln lc, .slice fa fn fc] 28 (0, 0))) ∧
    Ap (wr.heap[w.heap.size + 1]? = some (.cells #[.int .i64 5, .int .i64 yi, .string yt, .slice la2 ln2 lc2, .slice fa2 fn2 fc2] 28 (0, 0))) ∧ Ap (Below w.heap.size w wr)) (fun vi _ => fn - (intOf vi).toNat)
  case atStart => exact ⟨0, Nat.zero_le _, Nat.zero_le _, rfl, Ap.of HR.out.symm, Ap.of (blk_old (blk_new rfl)), Ap.of (blk_new (by simp)), Ap.of (bel_step (bel_alloc _ _) (bel_alloc _ _))⟩
  case round =>
    obtain ⟨k, hk1, hk2, rfl, HC, BX, BY, BL⟩ := hrel
    have cx := blk_cells BX.out
    have cy := blk_cells BY.out
    have lx := blk_lt BX.out
    have ly := blk_lt BY.out
    by_cases hlt : k < fn
    · have hlt' : (k : Int) < (fn : Int) := by omega
      by_cases hlt2 : k < fn2
      · have hlt2' : (k : Int) < (fn2 : Int) := by omega
        obtain ⟨d, rfl⟩ : ∃ d', d = d' + 1 := by
          cases d with
          | zero =>
            obtain ⟨_, _, _, _, _, _, ⟨_, _, _, hh⟩, _⟩ := HXL.out.elem hlt
            exact hh.elim
          | succ d' => exact ⟨d', rfl⟩
        obtain ⟨g1, o1, nm, a, l3, n3, c3, f3, m3, d3, rfl, hxa, _, hra, a0, a1, a2, a3, a4, a5⟩ := fld_cells (Row.below HXL.out BL.out) hlt
        obtain ⟨g2, o2, nm2, b, l4, n4, c4, f4, m4, d4, rfl, hyb, _, hrb, b0, b1, b2, b3, b4, b5⟩ := fld_cells (Row.below HYL.out BL.out) hlt2
        have lg1 := World.block_lt_of_cell? _ _ a0
        have lg2 := World.block_lt_of_cell? _ _ b0
        have HSTEP := Ap.of (cmpList_at (cmpF (cmpD (d + 1))) hxa hyb)
        obtain ⟨wo, rfl⟩ : ∃ wo : World, wo = wr := ⟨_, rfl⟩
        have HCL := Ap.of (fun W (hW : Below wo.heap.size wo W) => IH.out a b l3 n3 c3 f3 m3 d3 l4 n4 c4 f4 m4 d4 ok W (Knd.below hra hW) (Knd.below hrb hW))
        have HTX := Ap.of (fun W => texts_calls nm nm2 W)
        have hks : ∀ W, Below wo.heap.size wo W → (Below wo.heap.size wo W ∧ W.cell? ⟨w.heap.size, 4, none⟩ = some (.slice (some ⟨g1, o1, none⟩) fn fc) ∧ W.cell? ⟨w.heap.size + 1, 4, none⟩ = some (.slice (some ⟨g2, o2, none⟩) fn2 fc2) ∧ W.cell? ⟨g1, o1 + k * 6, none⟩ = some (.string nm) ∧ W.cell? ⟨g1, o1 + k * 6 + 1, none⟩ = some (.int .i64 a.kind) ∧ W.cell? ⟨g1, o1 + k * 6 + 2, none⟩ = some (.int .i64 a.int) ∧ W.cell? ⟨g1, o1 + k * 6 + 3, none⟩ = some (.string a.text) ∧ W.cell? ⟨g1, o1 + k * 6 + 4, none⟩ = some (.slice l3 n3 c3) ∧ W.cell? ⟨g1, o1 + k * 6 + 5, none⟩ = some (.slice f3 m3 d3) ∧ W.cell? ⟨g2, o2 + k * 6, none⟩ = some (.string nm2) ∧ W.cell? ⟨g2, o2 + k * 6 + 1, none⟩ = some (.int .i64 b.kind) ∧ W.cell? ⟨g2, o2 + k * 6 + 2, none⟩ = some (.int .i64 b.int) ∧ W.cell? ⟨g2, o2 + k * 6 + 3, none⟩ = some (.string b.text) ∧ W.cell? ⟨g2, o2 + k * 6 + 4, none⟩ = some (.slice l4 n4 c4) ∧ W.cell? ⟨g2, o2 + k * 6 + 5, none⟩ = some (.slice f4 m4 d4)) := fun W ho => by
          have t : ∀ g o v, wo.cell? ⟨g, o, none⟩ = some v → W.cell? ⟨g, o, none⟩ = some v := fun g o v hv => (ho.cell (p := ⟨g, o, none⟩) (World.block_lt_of_cell? _ _ hv)).trans hv
          exact ⟨ho, t _ _ _ (cx 4), t _ _ _ (cy 4), t _ _ _ a0, t _ _ _ a1, t _ _ _ a2, t _ _ _ a3, t _ _ _ a4, t _ _ _ a5, t _ _ _ b0, t _ _ _ b1, t _ _ _ b2, t _ _ _ b3, t _ _ _ b4, t _ _ _ b5⟩
        have KS := Ap.of hks
        have i1 : (0 : Int) ≤ (k : Int) := by omega
        have HCF : Ap (cmpF (cmpD (d + 1)) (nm, a) (nm2, b) = if cmpB nm nm2 = 0 then cmpD (d + 1) a b else cmpB nm nm2) := Ap.of rfl
        clear hks hra hrb hxa hyb
        generalize cmpB nm nm2 = q at *
        generalize cmpD (d + 1) a b = r at *
        go_wp2_with fail
        go_region_held3 (fun W => Below wo.heap.size wo W ∧ W.cell? ⟨w.heap.size, 4, none⟩ = some (.slice (some ⟨g1, o1, none⟩) fn fc) ∧ W.cell? ⟨w.heap.size + 1, 4, none⟩ = some (.slice (some ⟨g2, o2, none⟩) fn2 fc2) ∧ W.cell? ⟨g1, o1 + k * 6, none⟩ = some (.string nm) ∧ W.cell? ⟨g1, o1 + k * 6 + 1, none⟩ = some (.int .i64 a.kind) ∧ W.cell? ⟨g1, o1 + k * 6 + 2, none⟩ = some (.int .i64 a.int) ∧ W.cell? ⟨g1, o1 + k * 6 + 3, none⟩ = some (.string a.text) ∧ W.cell? ⟨g1, o1 + k * 6 + 4, none⟩ = some (.slice l3 n3 c3) ∧ W.cell? ⟨g1, o1 + k * 6 + 5, none⟩ = some (.slice f3 m3 d3) ∧ W.cell? ⟨g2, o2 + k * 6, none⟩ = some (.string nm2) ∧ W.cell? ⟨g2, o2 + k * 6 + 1, none⟩ = some (.int .i64 b.kind) ∧ W.cell? ⟨g2, o2 + k * 6 + 2, none⟩ = some (.int .i64 b.int) ∧ W.cell? ⟨g2, o2 + k * 6 + 3, none⟩ = some (.string b.text) ∧ W.cell? ⟨g2, o2 + k * 6 + 4, none⟩ = some (.slice l4 n4 c4) ∧ W.cell? ⟨g2, o2 + k * 6 + 5, none⟩ = some (.slice f4 m4 d4))
          (first
          | with_reducible assumption
          | (with_reducible (refine KS.out _ ?_; exact Below.refl _ _))
          | (with_reducible (refine KS.out _ ?_; apply Below.drew; exact Below.refl _ _))
          | (with_reducible (refine KS.out _ ?_; apply Below.drew; apply Below.drew; exact Below.refl _ _))
          | (with_reducible (refine KS.out _ ?_; apply bel_stepB _ _ hb3; exact And.left (by assumption); exact (Below.size (And.left (by assumption))))))
          (first
            | (go_at_call 123; (with_reducible refine (HTX.out _).mono ?_); rintro e w5 ⟨rfl, rfl⟩))
        all_goals
          by_cases hq : q = 0
          · subst hq
            go_wp2_with fail
            go_region_held3 (fun W => Below wo.heap.size wo W ∧ W.cell? ⟨w.heap.size, 4, none⟩ = some (.slice (some ⟨g1, o1, none⟩) fn fc) ∧ W.cell? ⟨w.heap.size + 1, 4, none⟩ = some (.slice (some ⟨g2, o2, none⟩) fn2 fc2) ∧ W.cell? ⟨g1, o1 + k * 6, none⟩ = some (.string nm) ∧ W.cell? ⟨g1, o1 + k * 6 + 1, none⟩ = some (.int .i64 a.kind) ∧ W.cell? ⟨g1, o1 + k * 6 + 2, none⟩ = some (.int .i64 a.int) ∧ W.cell? ⟨g1, o1 + k * 6 + 3, none⟩ = some (.string a.text) ∧ W.cell? ⟨g1, o1 + k * 6 + 4, none⟩ = some (.slice l3 n3 c3) ∧ W.cell? ⟨g1, o1 + k * 6 + 5, none⟩ = some (.slice f3 m3 d3) ∧ W.cell? ⟨g2, o2 + k * 6, none⟩ = some (.string nm2) ∧ W.cell? ⟨g2, o2 + k * 6 + 1, none⟩ = some (.int .i64 b.kind) ∧ W.cell? ⟨g2, o2 + k * 6 + 2, none⟩ = some (.int .i64 b.int) ∧ W.cell? ⟨g2, o2 + k * 6 + 3, none⟩ = some (.string b.text) ∧ W.cell? ⟨g2, o2 + k * 6 + 4, none⟩ = some (.slice l4 n4 c4) ∧ W.cell? ⟨g2, o2 + k * 6 + 5, none⟩ = some (.slice f4 m4 d4))
              (first
          | with_reducible assumption
          | (with_reducible (refine KS.out _ ?_; exact Below.refl _ _))
          | (with_reducible (refine KS.out _ ?_; apply Below.drew; exact Below.refl _ _))
          | (with_reducible (refine KS.out _ ?_; apply Below.drew; apply Below.drew; exact Below.refl _ _))
          | (with_reducible (refine KS.out _ ?_; apply bel_stepB _ _ hb3; exact And.left (by assumption); exact (Below.size (And.left (by assumption))))))
              (first
                | (go_at_call 93; (with_reducible refine (HCL.out _ (And.left (by assumption))).mono ?_); rintro e w6 ⟨rfl, hb3⟩))
            all_goals
              have HB5 := Ap.of (show Below wo.heap.size wo w6 from And.left (by assumption))
              have BX5 := Ap.of (blk_bel BX.out HB5.out)
              have BY5 := Ap.of (blk_bel BY.out HB5.out)
              have BL5 := Ap.of (bel_stepB BL.out BL.out.size HB5.out)
              clear hb3 KS HCL HTX a0 a1 a2 a3 a4 a5 b0 b1 b2 b3 b4 b5 cx cy
              by_cases hr : r = 0
              · subst hr
                go_wp2_with fail
                go_roundw
                case rel => exact ⟨k + 1, by omega, by omega, by go_num, Ap.of (by rw [HC.out, HSTEP.out, HCF.out]; simp), BX5, BY5, BL5⟩
                case measure => simp [intOf]; omega
              · have hr' : (r == 0) = false := by simpa using hr
                have HE1 := Ap.of (show res = r by rw [HC.out, HSTEP.out, HCF.out]; simp [hr])
                go_wp2_with fail
                go_ret
                exact ⟨by rw [HE1.out]; rfl, BL5.out⟩
          · have hq' : (q == 0) = false := by simpa using hq
            go_wp2_with fail
            go_ret
            exact ⟨by rw [HC.out, HSTEP.out, HCF.out, if_neg hq, if_neg hq]; rfl, bel_stepB BL.out BL.out.size (bel_draw _)⟩
      · have hlt2' : ¬ (k : Int) < (fn2 : Int) := by omega
        have HE := Ap.of (cmpList_end (cmpF (cmpD d)) (xs := xs) (ys := ys) (k := k) (by rw [HLX.out]; omega) (by rw [HLY.out]; omega) (by rw [HLX.out, HLY.out]; omega))
        go_wp2_with fail
        refine (sign_calls _ _ _).mono ?_
        rintro e w5 ⟨rfl, rfl⟩
        go_wp2_with fail
        go_ret
        exact ⟨by rw [HC.out, HE.out, HLX.out, HLY.out]; rfl, BL.out⟩
    · have hlt' : ¬ (k : Int) < (fn : Int) := by omega
      have HE := Ap.of (cmpList_end (cmpF (cmpD d)) (xs := xs) (ys := ys) (k := k) (by rw [HLX.out]; omega) (by rw [HLY.out]; omega) (by rw [HLX.out]; omega))
      go_wp2_with fail
      refine (sign_calls _ _ _).mono ?_
      rintro e w5 ⟨rfl, rfl⟩
      go_wp2_with fail
      go_ret
      exact ⟨by rw [HC.out, HE.out, HLX.out, HLY.out]; rfl, BL.out⟩
set_option maxRecDepth 100000 in
set_option maxHeartbeats 4000000 in
theorem lcmp_flat (d : Nat) (x y : Val) (la : Option Addr) (ln lc : Nat) (fa : Option Addr) (fn fc : Nat) (la2 : Option Addr) (ln2 lc2 : Nat) (fa2 : Option Addr) (fn2 fc2 : Nat) (w : World) (h4 : ¬ (x.kind = y.kind ∧ (x.kind = 4 ∨ x.kind = 5))) :
    Calls Tryz.prog 93 #[.agg #[.int .i64 x.kind, .int .i64 x.int, .string x.text, .slice la ln lc, .slice fa fn fc], .agg #[.int .i64 y.kind, .int .i64 y.int, .string y.text, .slice la2 ln2 lc2, .slice fa2 fn2 fc2]] w fun e w' => e = .returned (.int .i64 (cmpD (d + 1) x y)) ∧ Below w.heap.size w w' := by
  rw [cmpD]
  generalize x.list = xl at *
  generalize x.fields = xf at *
  generalize y.list = yl at *
  generalize y.fields = yf at *
  generalize x.int = xi at *
  generalize x.kind = xk at *
  generalize x.text = xt at *
  generalize y.int = yi at *
  generalize y.kind = yk at *
  generalize y.text = yt at *
  have HSG := Ap.of (fun a b W => sign_calls a b W)
  have HTX := Ap.of (fun a b W => texts_calls a b W)
  by_cases hk : xk = yk
  · subst hk
    rw [if_pos rfl]
    have hn4 : xk ≠ 4 := fun h => h4 ⟨rfl, .inl h⟩
    have hn5 : xk ≠ 5 := fun h => h4 ⟨rfl, .inr h⟩
    have t4 : (xk == 4) = false := by simpa using hn4
    have t5 : (xk == 5) = false := by simpa using hn5
    clear h4
    by_cases h1 : xk = 1
    · subst h1
      rw [if_pos (.inl rfl)]
      go_enter Tryz.func93, Tryz.ntmps93
      go_wp2_with fail
      refine (HSG.out _ _ _).mono ?_
      rintro e w5 ⟨rfl, rfl⟩
      go_wp2_with fail
      go_ret
      exact ⟨rfl, bel_step (bel_alloc _ _) (bel_alloc _ _)⟩
    · by_cases h2 : xk = 2
      · subst h2
        rw [if_pos (.inr rfl)]
        go_enter Tryz.func93, Tryz.ntmps93
        go_wp2_with fail
        refine (HSG.out _ _ _).mono ?_
        rintro e w5 ⟨rfl, rfl⟩
        go_wp2_with fail
        go_ret
        exact ⟨rfl, bel_step (bel_alloc _ _) (bel_alloc _ _)⟩
      · rw [if_neg (fun h => h.elim h1 h2)]
        by_cases h3 : xk = 3
        · subst h3
          rw [if_pos rfl]
          go_enter Tryz.func93, Tryz.ntmps93
          go_wp2_with fail
          refine (HTX.out _ _ _).mono ?_
          rintro e w5 ⟨rfl, rfl⟩
          go_wp2_with fail
          go_ret
          exact ⟨rfl, bel_step (bel_alloc _ _) (bel_alloc _ _)⟩
        · rw [if_neg h3, if_neg hn4, if_neg hn5]
          have t1 : (xk == 1) = false := by simpa using h1
          have t2 : (xk == 2) = false := by simpa using h2
          have t3 : (xk == 3) = false := by simpa using h3
          go_enter Tryz.func93, Tryz.ntmps93
          go_wp2_with fail
          go_ret
          exact ⟨rfl, bel_step (bel_alloc _ _) (bel_alloc _ _)⟩
  · rw [if_neg hk]
    have tk : (xk == yk) = false := by simpa using hk
    clear h4
    go_enter Tryz.func93, Tryz.ntmps93
    go_wp2_with fail
    refine (HSG.out _ _ _).mono ?_
    rintro e w5 ⟨rfl, rfl⟩
    go_wp2_with fail
    go_ret
    exact ⟨rfl, bel_step (bel_alloc _ _) (bel_alloc _ _)⟩
/-- Cmp, whole. -/
theorem lcmp_calls : ∀ d, LCmpS d
  | 0 => fun _ _ _ _ _ _ _ _ _ _ _ _ _ _ _ _ h => h.elim
  | d + 1 => by
    intro x y la ln lc fa fn fc la2 ln2 lc2 fa2 fn2 fc2 ok w hx hy
    by_cases h4 : x.kind = y.kind ∧ (x.kind = 4 ∨ x.kind = 5)
    · obtain ⟨hk, h | h⟩ := h4
      · have := lcmp_list d (lcmp_calls d) x y la ln lc fa fn fc la2 ln2 lc2 fa2 fn2 fc2 ok w h (hk ▸ h) hx hy
        rw [cmpD, if_pos hk, if_neg (by omega), if_neg (by omega), if_pos h]
        exact this
      · have := lcmp_fields d (lcmp_calls d) x y la ln lc fa fn fc la2 ln2 lc2 fa2 fn2 fc2 ok w h (hk ▸ h) hx hy
        rw [cmpD, if_pos hk, if_neg (by omega), if_neg (by omega), if_neg (by omega), if_pos h]
        exact this
    · exact lcmp_flat d x y la ln lc fa fn fc la2 ln2 lc2 fa2 fn2 fc2 w h4
end Go.Proofs.YtlomieopppndeaaGreatDoor
