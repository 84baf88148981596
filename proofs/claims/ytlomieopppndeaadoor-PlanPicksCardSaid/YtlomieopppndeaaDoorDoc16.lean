/- roundelaylaw16.Doc: a filter of bytes, as a value. -/
import Derived.Test.YtlomieopppndeaaDoorDoc16L
import Derived.Deep.RegionWith
import Derived.Deep.DeepCutAuto
import Derived.Deep.CutBlock
import Derived.Deep.RegionHeld3
namespace Go.Proofs.YtlomieopppndeaaDoor
open Go.RowKit

def DocP (d : Nat) (w : World) (ok : Nat → Prop) (e : Ending) (w' : World) : Prop :=
  ∃ (x : Val) (la : Option Addr) (ln lc : Nat) (fa : Option Addr) (fn fc : Nat) (A : Option Addr) (n c : Nat), e = .returned (.tuple #[.agg #[.int .i64 x.kind, .int .i64 x.int, .string x.text, .slice la ln lc, .slice fa fn fc], .slice A n c]) ∧ (KV (2 * d + 5)).R w' (fun k => w.heap.size ≤ k) x [.int .i64 x.kind, .int .i64 x.int, .string x.text, .slice la ln lc, .slice fa fn fc] ∧ DocV d x ∧ Bs w' ok A n c ∧ Below w.heap.size w w'
def DocS (d : Nat) : Prop := ∀ (A : Option Addr) (n c : Nat) (w : World) (ok : Nat → Prop), (∀ k, ok k → k < w.heap.size) → TeG w → Bs w ok A n c → Calls Tryd.prog 20 #[.slice A n c, .int .i64 (d : Int)] w (DocP d w ok)

set_option maxRecDepth 100000 in
set_option maxHeartbeats 4000000 in
theorem doc_empty (d : Nat) (A : Option Addr) (c : Nat) (w : World) (ok : Nat → Prop) (dd : Int) : Calls Tryd.prog 20 #[.slice A 0 c, .int .i64 dd] w (DocP (d + 1) w ok) := by
  go_enter Tryd.func20, Tryd.ntmps20
  go_wp2_with fail
  refine bodyPost_ret (v := .tuple #[.agg #[.int .i64 5, .int .i64 0, .string ⟨#[]⟩, .slice none 0 0, .slice none 0 0], .slice none 0 0]) (by simp [results, Tryd.results20, go_sem]) rfl
    ⟨.mk 5 0 ⟨#[]⟩ [] [], none, 0, 0, none, 0, 0, none, 0, 0, rfl, flat_R (2 * d + 6) _ _ 5 0 _ i64_5 i64_0 empty_small, doc_mk (Nat.zero_le _) (fun f h => by cases h), ⟨Nat.le_refl _, by decide, fun _ => rfl, .inl rfl⟩, bel_step (bel_alloc _ _) (bel_alloc _ _)⟩

set_option maxRecDepth 100000 in
set_option maxHeartbeats 16000000 in
theorem doc_step (d : Nat) (hd : d ≤ 100) (ih : d ≠ 0 → DocS d) (g off n cap : Nat) (c : Int) (ok : Nat → Prop) (w : World) (G : TeG w) (hB : Bs w ok (some ⟨g, off, none⟩) (n + 1) cap) (hg : g < w.heap.size) (hcell : w.cell? ⟨g, off, none⟩ = some (.int .u8 c)) (hok : ∀ k, ok k → k < w.heap.size) :
    Calls Tryd.prog 20 #[.slice (some ⟨g, off, none⟩) (n + 1) cap, .int .i64 ((d : Int) + 1)] w (DocP (d + 1) w ok) := by
  have hn0 : ((n : Int) + 1 == 0) = false := by simp; omega
  have hn1 := hB.1
  have hn2 := hB.2.1
  obtain ⟨A', c', hrun, hB'⟩ := cut1 g off n cap hn1 hn2
  have HB' := Ap.of (hB' w ok hB)
  have IH := Ap.of ih
  have GG := Ap.of G
  have HOK := Ap.of hok
  clear hB' hB ih G hok
  obtain ⟨i0, hi, hzz⟩ := Option.map_eq_some_iff.1 Tryd.infoF
  simp only [Prod.mk.injEq] at hzz
  have HI := Ap.of (And.intro hi hzz)
  clear hi hzz
  go_enter Tryd.func20, Tryd.ntmps20
  go_wp2_with fail
  go_loopw [0, 32] (fun vb vi wr => ∃ (k : Nat) (A : Option Addr) (n c : Nat) (la : Option Addr) (ln lc : Nat) (xs : List Fld), k ≤ 7 ∧ vi = .int .i64 k ∧ vb = .slice A n c ∧ Ap (Bs wr ok A n c) ∧ Ap (xs.length = ln) ∧ ln ≤ k ∧ Ap (∀ x ∈ xs, FieldV d x) ∧
    Ap (wr.heap[w.heap.size]? = some (.cells #[.int .i64 0, .int .i64 0, .string ⟨#[]⟩, .slice none 0 0, .slice none 0 0] 29 (0, 0))) ∧ Ap (wr.heap[w.heap.size + 1]? = some (.cells #[.int .i64 5, .int .i64 0, .string ⟨#[]⟩, .slice none 0 0, .slice la ln lc] 29 (0, 0))) ∧
    Ap (wr.heap[w.heap.size + 2]? = some (.cells (docNames.map Value.string).toArray 9 (0, 0))) ∧
    Ap (Own (KFld (KV (2 * d + 6))) 69 w.heap.size wr (fun j => w.heap.size + 3 ≤ j) (.slice la ln lc) xs) ∧ Ap (Below w.heap.size w wr)) (fun _ vi _ => 7 - (intOf vi).toNat)
  case atStart =>
    refine ⟨0, A', n, c', none, 0, 0, [], by omega, rfl, rfl, Ap.of (((HB'.out.below (bel_alloc _ _)).below (bel_alloc _ _)).below (bel_alloc _ _)), Ap.of rfl, by omega, Ap.of (fun x h => by cases h), Ap.of (blk_old (blk_old (blk_new rfl))), Ap.of (blk_old (blk_new (by simp))), Ap.of (blk_new (by simp)), Ap.of (Own.nil _ _ _ _ _), Ap.of (bel_step (bel_step (bel_alloc _ _) (bel_alloc _ _)) (bel_alloc _ _))⟩
  case round =>
    obtain ⟨k, A, n, cp, la, ln, lc, xs, hk, rfl, rfl, B, HXL, hln, GD, B4, B6, B30, O, BL⟩ := hrel
    clear HB' hrun hn0 hn1 hn2 hcell
    by_cases hlt : k < 7
    · obtain ⟨s, hs⟩ : ∃ s, docNames[k]? = some s := ⟨_, List.getElem?_eq_getElem (by have : docNames.length = 7 := rfl; omega)⟩
      have HS := Ap.of hs
      have cn : wr.cell? ⟨w.heap.size + 2, k, none⟩ = some (.string s) := by
        rw [blk_cells B30.out]
        simp [hs]
      have ln30 := blk_lt B30.out
      have hk7 : (k : Int) < 7 := by omega
      clear hs
      by_cases hb : ((c / 2 ^ k).tmod 2 == 0) = true
      · have hb' : (c / 2 ^ k).tmod 2 = 0 := by simpa using hb
        go_wp2_with fail
        go_roundw
        case rel => exact ⟨k + 1, A, n, cp, la, ln, lc, xs, by omega, by go_num, rfl, B, HXL, by omega, GD, B4, B6, B30, O, BL⟩
        case measure => simp [intOf]; omega
      have hb1 : ((c / 2 ^ k).tmod 2 == 0) = false := by simpa using hb
      have hb' : ¬ (c / 2 ^ k).tmod 2 = 0 := by simpa using hb
      clear hb
      by_cases h4 : n < 4
      · have h4' : (n : Int) < 4 := by omega
        go_wp2_with fail
        go_roundw
        case rel => exact ⟨k + 1, A, n, cp, la, ln, lc, xs, by omega, by go_num, rfl, B, HXL, by omega, GD, B4, B6, B30, O, BL⟩
        case measure => simp [intOf]; omega
      have h4' : 4 ≤ (n : Int) := by omega
      by_cases h2 : k < 2
      · have h2' : (k : Int) < 2 := by omega
        by_cases hd0 : d = 0
        · have hd0' : (d : Int) + 1 < 2 := by omega
          clear hd0
          go_wp2_with fail
          go_roundw
          case rel => exact ⟨k + 1, A, n, cp, la, ln, lc, xs, by omega, by go_num, rfl, B, HXL, by omega, GD, B4, B6, B30, O, BL⟩
          case measure => simp [intOf]; omega
        · have hd0' : 2 ≤ (d : Int) + 1 := by omega
          go_upto_block 2 with fail
          go_cut [0, 11, 12, 13, 14, 15, 16, 17, 18, 19] (fun v0 _ _ _ _ _ _ _ _ _ wx => ∃ (A2 : Option Addr) (n2 c2 : Nat) (y : Val) (la2 : Option Addr) (ln2 lc2 : Nat) (fa2 : Option Addr) (fn2 fc2 : Nat), v0 = .slice A2 n2 c2 ∧ Ap (RdP d wr wx ok A2 n2 c2 s y la2 ln2 lc2 fa2 fn2 fc2))
          case first =>
            have HBB := Ap.of (B.out.below (bel_alloc wr (.cells #[.string s, .int .i64 0, .int .i64 0, .string ⟨#[]⟩, .slice none 0 0, .slice none 0 0] 69)))
            have GW := Ap.of (fun W (hW : Below wr.heap.size wr W) => GG.out.below (bel_stepB BL.out BL.out.size hW))
            have HOKW := Ap.of (fun j (hj : ok j) => Nat.lt_of_lt_of_le (HOK.out j hj) BL.out.size)
            have HSD := Ap.of ((doc_cases HS.out).1 (by omega))
            obtain ⟨hm1, hm2, hA0, h0 | ⟨g2, off2, hA, hg2, hgl2, hx⟩⟩ := B.out
            · omega
            subst hA
            obtain ⟨q0, hq0, q00, q01⟩ := hx 0 (by omega)
            rw [Nat.add_zero] at hq0
            have i0n : (0 : Int) < (n : Int) := by omega
            have i0m : 0 < n := by omega
            obtain ⟨A3, hrun, hB3⟩ := cutFrom (some ⟨g2, off2, none⟩) n cp 1 (by omega) hm1 hm2 (fun h => by cases h) 1 rfl
            have HB3 := Ap.of hB3
            obtain ⟨N, hN⟩ : ∃ N : Nat, q0 % 3 = (N : Int) := ⟨(q0 % 3).toNat, by omega⟩
            have hN2 : N ≤ 2 := by omega
            have HNN := Ap.of hN
            clear hN
            obtain ⟨j0, hj, hjz⟩ := Option.map_eq_some_iff.1 Tryd.infoV
            simp only [Prod.mk.injEq] at hjz
            have HJ := Ap.of (And.intro hj hjz)
            clear hj hjz hB3 hx hA0
            obtain ⟨wo, rfl⟩ : ∃ wo : World, wo = wr := ⟨_, rfl⟩
            go_wp2_with fail
            go_loopw [0, 13] (fun vb vi wl => ∃ (k2 : Nat) (A : Option Addr) (n c : Nat) (la2 : Option Addr) (lc2 : Nat) (ys : List Val), k2 ≤ N + 1 ∧ vi = .int .i64 k2 ∧ vb = .slice A n c ∧ Ap (Bs wl ok A n c) ∧ Ap (ys.length = k2) ∧ Ap (∀ y ∈ ys, DocV d y) ∧
              Ap (wl.heap[wo.heap.size]? = some (.cells #[.string s, .int .i64 0, .int .i64 0, .string ⟨#[]⟩, .slice none 0 0, .slice none 0 0] 69 (0, 0))) ∧ Ap (wl.heap[wo.heap.size + 1]? = some (.cells #[.int .i64 4, .int .i64 0, .string ⟨#[]⟩, .slice la2 k2 lc2, .slice none 0 0] 29 (0, 0))) ∧
              Ap (Own (KV (2 * d + 5)) 29 wo.heap.size wl (fun j => wo.heap.size + 2 ≤ j) (.slice la2 k2 lc2) ys) ∧ Ap (Below wo.heap.size wo wl)) (fun _ vi _ => N + 1 - (intOf vi).toNat)
            case atStart =>
              exact ⟨0, A3, n - 1, cp - 1, none, 0, [], by omega, rfl, rfl, Ap.of (HB3.out _ _ (HBB.out.below (bel_alloc _ _))), Ap.of rfl, Ap.of (fun x h => by cases h), Ap.of (blk_old (blk_new rfl)), Ap.of (blk_new (by simp)), Ap.of (Own.nil _ _ _ _ _), Ap.of (bel_step (bel_alloc _ _) (bel_alloc _ _))⟩
            case round =>
              obtain ⟨k2, A, n2, c2, la2, lc2, ys, hk2, rfl, rfl, BI, HYL, GI, BF, BL2, OI, BI2⟩ := hrel
              clear hrun HB3 hq0
              by_cases hlt2 : k2 ≤ N
              · have hlt2' : (k2 : Int) ≤ q0 % 3 := by have := HNN.out; omega
                go_wp2_with fail
                refine (IH.out hd0 A n2 c2 _ ok (fun j hj => Nat.lt_of_lt_of_le (HOKW.out j hj) BI2.out.size) (GW.out _ BI2.out) BI.out).mono ?_
                rintro e w3 ⟨x, xa, xn, xc, ya, yn, yc, A4, n4, c4, rfl, hx, hgd, hb2, hbl⟩
                have bkF := blk_bel BF.out hbl
                have bkL := blk_bel BL2.out hbl
                have O3 := Ap.of (OI.out.below hbl)
                have BL3 := Ap.of (bel_stepB BI2.out BI2.out.size hbl)
                have HX := Ap.of hx
                have HG := Ap.of hgd
                have HB2 := Ap.of hb2
                have WS : Ap (wo.heap.size + 2 ≤ wr.heap.size) := Ap.of (blk_lt BL2.out)
                have LT := Ap.of OI.out.lt
                have OB := Ap.of OI.out.1
                have cL := blk_cells bkL
                have fL := blk_free bkL
                have lL : wo.heap.size + 1 < w3.heap.size := blk_lt bkL
                have BkF := Ap.of bkF
                have BkL := Ap.of bkL
                clear BI BF BL2 OI hx hgd hb2 hbl bkF bkL
                go_wp2_with (at_builtin; refine wp_append (K := KV (2 * d + 5)) (tx := 29) (e := 29) (B := wo.heap.size) (ok := fun j => wo.heap.size + 2 ≤ j) (okx := fun j => wr.heap.size ≤ j) (xs := ys) (x := x) (cs := [.int .i64 x.kind, .int .i64 x.int, .string x.text, .slice xa xn xc, .slice ya yn yc]) rfl _ _ 26 j0 _ 80 rfl Tryd.underlying26 HJ.out.1 HJ.out.2.1 HJ.out.2.2.1 HJ.out.2.2.2 rfl (Nat.succ_pos 4) rfl rfl ?a1 ?a2 ?a3 ?a4 ?a5 ?a6 ?a7 ?a8 ?_)
                case a1 => exact (O3.out.below (bel_alloc _ _)).below (bel_alloc _ _)
                case a2 => first | exact blk_new (by simp) | exact (Array.getElem?_eq_some_iff.1 (blk_new (by simp))).2
                case a3 => exact Knd.below (Knd.below HX.out (bel_alloc _ _)) (bel_alloc _ _)
                case a4 => exact fun j hj => ⟨by have := WS.out; omega, fun he => by have := (LT.out j he.symm).2; omega⟩
                case a5 => intro j hj; have := lL; (try simp at hj); omega
                case a6 => rw [HYL.out]; omega
                case a7 => rw [HYL.out]; omega
                case a8 => have := lL; (try simp); omega
                intro v5 w5 hO5 honly
                obtain ⟨A5, c5, hv5, _, _⟩ := hO5.slice
                rw [show (ys ++ [x]).length = k2 + 1 from by simp [HYL.out]] at hv5
                subst hv5
                have hn4 : ∀ j, j < wo.heap.size + 2 → ¬ ((Value.slice la2 k2 lc2).ownBlock = some j) := fun j hj he => by have := OB.out j he; omega
                have bF := blk_only (blk_old (blk_old BkF.out)) honly (hn4 _ (by omega))
                have bL := blk_only (blk_old (blk_old BkL.out)) honly (hn4 _ (by omega))
                have BL5 := Ap.of (bel_only (bel_stepB (bel_stepB BL3.out (by omega) (bel_alloc _ _)) (by simp; omega) (bel_alloc _ _)) (by simp; omega) honly (fun j he => (LT.out j he).1))
                have HB5 := Ap.of (((HB2.out.below (bel_alloc _ _)).below (bel_alloc _ _)).only honly (fun j hj he => by have := HOKW.out j hj; have := (LT.out j he).1; omega))
                have O5 := Ap.of hO5
                have BkF := Ap.of bF
                have BkL := Ap.of bL
                have cL := blk_cells bL
                have fL := blk_free bL
                clear bF bL hO5 honly hn4
                go_wp2_with fail
                go_roundw
                case rel =>
                  have hs := Only.setCell w5 ⟨wo.heap.size + 1, 3, none⟩ (.slice A5 (k2 + 1) c5)
                  refine ⟨k2 + 1, A4, n4, c4, A5, c5, ys ++ [x], by omega, by go_num, rfl, Ap.of (HB5.out.only hs (fun j hj he => by have := HOKW.out j hj; simp at he; omega)), Ap.of (by simp [HYL.out]), Ap.of ?_, Ap.of (blk_only BkF.out hs (by simp)), Ap.of ?_, Ap.of (O5.out.only hs (fun j hj he => by simp at he; omega)), Ap.of (bel_only BL5.out BL5.out.size hs (fun j he => by simp at he; omega))⟩
                  · intro y hy
                    rcases List.mem_append.1 hy with hy | hy
                    · exact GI.out y hy
                    · rw [List.mem_singleton.1 hy]; exact HG.out
                  · simpa using blk_set BkL.out 3 (.slice A5 (k2 + 1) c5)
                case measure => simp [intOf]; omega
              · have hlt2' : ¬ (k2 : Int) ≤ q0 % 3 := by have := HNN.out; omega
                have cF := blk_cells BF.out
                have fF := blk_free BF.out
                have lF := blk_lt BF.out
                have cL := blk_cells BL2.out
                have lL := blk_lt BL2.out
                obtain ⟨A6, cx, hv6, hrow⟩ := OI.out.row
                rw [HYL.out] at hv6 hrow
                injection hv6 with hv6 _ hv7
                subst hv6 hv7
                have HROW := Ap.of hrow
                clear hrow
                go_wp2_with fail
                go_meet
                have hr := rd_set (d := d) (y := .mk 4 0 ⟨#[]⟩ ys []) (la2 := la2) (ln2 := k2) (lc2 := lc2) (fa2 := none) (fn2 := 0) (fc2 := 0) HOKW.out BF.out BI.out (.inr ⟨HSD.out, rfl, rfl, (by intro he; have := HYL.out; have he' : ys = [] := he; rw [he'] at this; simp at this; omega), (by show ys.length ≤ 3; rw [HYL.out]; omega), GI.out⟩)
                  (show (KV (2 * d + 6)).R wr (fun k => wo.heap.size < k) (.mk 4 0 ⟨#[]⟩ ys []) [.int .i64 4, .int .i64 0, .string ⟨#[]⟩, .slice la2 k2 lc2, .slice none 0 0] from ⟨la2, k2, lc2, none, 0, 0, rfl, i64_4, i64_0, empty_small, HROW.out.mono (fun j hj => by omega), Row.nil _ _ _⟩) BI2.out
                exact ⟨A, n2, c2, _, la2, k2, lc2, none, 0, 0, rfl, Ap.of hr⟩
          case rest =>
            obtain ⟨A2, n2, c2, y, la2, ln2, lc2, fa2, fn2, fc2, rfl, HR⟩ := hcut
            have WS : Ap (w.heap.size + 3 ≤ wr.heap.size) := Ap.of (blk_lt B30.out)
            have BW := Ap.of HR.out.2.2.2.2
            have HY := Ap.of HR.out.2.2.2.1
            have b6 := blk_belB B6.out BW.out (blk_lt B6.out)
            have b4 := blk_belB B4.out BW.out (blk_lt B4.out)
            have b30 := blk_belB B30.out BW.out (blk_lt B30.out)
            have O3 := Ap.of (O.out.below BW.out)
            have BB4 := Ap.of b4
            have BB6 := Ap.of b6
            have BB30 := Ap.of b30
            have c6 := blk_cells b6
            have f6 := blk_free b6
            have l6 := blk_lt b6
            have c10 := blk_cells HR.out.2.1
            have l10 := blk_lt HR.out.2.1
            have LT := Ap.of O.out.lt
            have OB := Ap.of O.out.1
            have HSN := Ap.of (docn_small (List.mem_of_getElem? HS.out))
            clear cn ln30 b6 b4 b30
            go_wp2_with (at_builtin; refine wp_append (K := KFld (KV (2 * d + 6))) (tx := 69) (e := 69) (B := w.heap.size) (ok := fun j => w.heap.size + 3 ≤ j) (okx := fun j => wr.heap.size < j) (xs := xs) (x := (s, y)) (cs := [.string s, .int .i64 y.kind, .int .i64 y.int, .string y.text, .slice la2 ln2 lc2, .slice fa2 fn2 fc2]) rfl _ _ 27 i0 _ 96 rfl Tryd.underlying27 HI.out.1 HI.out.2.1 HI.out.2.2.1 HI.out.2.2.2 rfl (Nat.succ_pos 5) rfl rfl ?a1 ?a2 ?a3 ?a4 ?a5 ?a6 ?a7 ?a8 ?_)
            case a1 => exact O3.out.below (bel_alloc _ _)
            case a2 => first | exact blk_new rfl | exact (Array.getElem?_eq_some_iff.1 (blk_new (w := wc) rfl)).2
            case a3 => exact ⟨_, rfl, by have := HSN.out; show s.size ≤ maxLen; unfold maxLen; omega, Knd.below HY.out (bel_alloc _ _)⟩
            case a4 => exact fun j hj => ⟨by have := WS.out; omega, fun he => by have := (LT.out j he.symm).2; omega⟩
            case a5 => intro j hj; have := WS.out; have := BW.out.size; (try simp at hj); omega
            case a6 => rw [HXL.out]; omega
            case a7 => rw [HXL.out]; omega
            case a8 => have := l6; (try simp); omega
            intro v5 w5 hO5 honly
            obtain ⟨A5, c5, hv5, _, _⟩ := hO5.slice
            rw [show (xs ++ [(s, y)]).length = ln + 1 from by simp [HXL.out]] at hv5
            subst hv5
            have hn4 : ∀ j, j < w.heap.size + 3 → ¬ ((Value.slice la ln lc).ownBlock = some j) := fun j hj he => by have := OB.out j he; omega
            have b4 := blk_only (blk_old BB4.out) honly (hn4 _ (by omega))
            have b6 := blk_only (blk_old BB6.out) honly (hn4 _ (by omega))
            have b30 := blk_only (blk_old BB30.out) honly (hn4 _ (by omega))
            have hbw : Below w.heap.size w (wc.alloc (.cells #[.string s, .int .i64 y.kind, .int .i64 y.int, .string y.text, .slice la2 ln2 lc2, .slice fa2 fn2 fc2] 69)) := bel_stepB (bel_stepB BL.out BL.out.size BW.out) (by have := BL.out.size; have := BW.out.size; omega) (bel_alloc _ _)
            have BL5 := Ap.of (bel_only hbw hbw.size honly (fun j he => (LT.out j he).1))
            have HB5 := Ap.of ((HR.out.1.below (bel_alloc _ _)).only honly (fun j hj he => by have := HOK.out j hj; have := (LT.out j he).1; omega))
            have O5 := Ap.of hO5
            have BK4 := Ap.of b4
            have BK6 := Ap.of b6
            have BK30 := Ap.of b30
            have c6 := blk_cells b6
            have f6 := blk_free b6
            clear b4 b6 b30 hO5 honly hbw
            go_wp2_with fail
            go_roundw
            case rel =>
              have hs := Only.setCell w5 ⟨w.heap.size + 1, 4, none⟩ (.slice A5 (ln + 1) c5)
              refine ⟨k + 1, A2, n2, c2, A5, ln + 1, c5, xs ++ [(s, y)], by omega, by go_num, rfl, Ap.of (HB5.out.only hs (fun j hj he => by have := HOK.out j hj; simp at he; omega)), Ap.of (by simp [HXL.out]), by omega, Ap.of ?_, Ap.of (blk_only BK4.out hs (by simp)), Ap.of ?_, Ap.of (blk_only BK30.out hs (by simp)), Ap.of (O5.out.only hs (fun j hj he => by simp at he; omega)), Ap.of (bel_only BL5.out BL5.out.size hs (fun j he => by simp at he; omega))⟩
              · intro z hz
                rcases List.mem_append.1 hz with hz | hz
                · exact GD.out z hz
                · rw [List.mem_singleton.1 hz]; exact HR.out.2.2.1
              · simpa using blk_set BK6.out 4 (.slice A5 (ln + 1) c5)
            case measure => simp [intOf]; omega
      · have h2' : 2 ≤ (k : Int) := by omega
        obtain ⟨_, _, hA0, h0 | ⟨g2, off2, hA, hg2, hgl2, hx⟩⟩ := B.out
        · omega
        subst hA
        obtain ⟨q0, hq0, q00, q01⟩ := hx 0 (by omega)
        obtain ⟨q1, hq1, q10, q11⟩ := hx 1 (by omega)
        obtain ⟨q2, hq2, q20, q21⟩ := hx 2 (by omega)
        obtain ⟨q3, hq3, q30, q31⟩ := hx 3 (by omega)
        rw [Nat.add_zero] at hq0
        have hm1 : n ≤ cp := by assumption
        have hm2 : cp ≤ 9223372036854775807 := by assumption
        have i0n : (0 : Int) < (n : Int) := by omega
        have i0m : 0 < n := by omega
        have i1m : 1 < n := by omega
        have i2m : 2 < n := by omega
        have i3m : 3 < n := by omega
        have i1n : (1 : Int) < (n : Int) := by omega
        have i2n : (2 : Int) < (n : Int) := by omega
        have i3n : (3 : Int) < (n : Int) := by omega
        clear hx
        go_upto_block 2 with fail
        go_cut [0, 11, 12, 13, 14, 15, 16, 17, 18, 19] (fun v0 _ _ _ _ _ _ _ _ _ wx => ∃ (A2 : Option Addr) (n2 c2 : Nat) (y : Val) (la2 : Option Addr) (ln2 lc2 : Nat) (fa2 : Option Addr) (fn2 fc2 : Nat), v0 = .slice A2 n2 c2 ∧ Ap (RdP d wr wx ok A2 n2 c2 s y la2 ln2 lc2 fa2 fn2 fc2))
        case first =>
          have HBB := Ap.of (B.out.below (bel_alloc wr (.cells #[.string s, .int .i64 0, .int .i64 0, .string ⟨#[]⟩, .slice none 0 0, .slice none 0 0] 69)))
          have GW := Ap.of (fun W (hW : Below wr.heap.size wr W) => GG.out.below (bel_stepB BL.out BL.out.size hW))
          have HOKW := Ap.of (fun j (hj : ok j) => Nat.lt_of_lt_of_le (HOK.out j hj) BL.out.size)
          have HSD := Ap.of ((doc_cases HS.out).2 (by omega))
          by_cases z3 : q0 % 3 = 0
          · have z3' : (q0 % 3 == 0) = true := by simpa using z3
            obtain ⟨A3, hrun, hB3⟩ := cutFrom (some ⟨g2, off2, none⟩) n cp 2 (by omega) hm1 hm2 (fun h => by cases h) 2 rfl
            have HB3 := Ap.of hB3
            clear hB3 z3
            go_wp2_with fail
            refine (small_calls q1 q10 q11 _ (GW.out _ (bel_alloc _ _)).laid).mono ?_
            rintro e w3 ⟨x, lx, lnx, lcx, fx, fnx, fcx, rfl, hy, hgd, hbl⟩
            have b10 := blk_bel (blk_new (w := wr) (k := wr.heap.size) (o := .cells #[.string s, .int .i64 0, .int .i64 0, .string ⟨#[]⟩, .slice none 0 0, .slice none 0 0] 69) rfl) hbl
            have B10 := Ap.of b10
            have HY := Ap.of hy
            have HGD := Ap.of hgd
            have HBL := Ap.of hbl
            have c10 := blk_cells b10
            have f10 := blk_free b10
            have l10 := blk_lt b10
            clear b10 hy hgd hbl
            go_wp2_with fail
            go_meet
            exact ⟨A3, n - 2, cp - 2, x, lx, lnx, lcx, fx, fnx, fcx, rfl, Ap.of (rd_set HOKW.out B10.out (HB3.out _ _ (HBB.out.below HBL.out)) (.inl ⟨HSD.out, .inl HGD.out⟩) (KV_le (by omega) _ _ _ _ ((KV 4).mono (fun j hj => by simp at hj; omega) HY.out)) (bel_step (bel_alloc _ _) HBL.out))⟩
          · have z3' : (q0 % 3 == 0) = false := by simpa using z3
            have e30 : 0 ≤ q0 / 3 := by omega
            have e31 := Ap.of (show 0 ≤ IntKind.u8.wrap (q0.tdiv 3) by rw [Int.tdiv_eq_ediv_of_nonneg q00, IntKind.wrap_u8]; omega)
            have HT := Ap.of (fun (a b : Int) (a0 : 0 ≤ a) (b0 : 0 ≤ b) (b1 : b ≤ 255) W (hW : Below wr.heap.size wr W) => tst_calls a b a0 b0 b1 W (GW.out W hW))
            clear z3
            go_upto_region 11 with fail
            go_cut [16, 17] (fun v16 _ wx => ∃ (g16 : Nat) (nm1 : ByteArray) (x : Val) (la : Option Addr) (ln lc : Nat) (fa : Option Addr) (fn fc : Nat), v16 = .pointer (some ⟨g16, 0, none⟩) ∧ Ap (nm1 ∈ testsOf ∧ GoodV 5 x) ∧ Ap (NewF (wr.alloc (.cells #[.string s, .int .i64 0, .int .i64 0, .string ⟨#[]⟩, .slice none 0 0, .slice none 0 0] 69)) wx g16 nm1 x la ln lc fa fn fc))
            case first =>
              have hks : ∀ W, Below (wr.alloc (.cells #[.string s, .int .i64 0, .int .i64 0, .string ⟨#[]⟩, .slice none 0 0, .slice none 0 0] 69)).heap.size (wr.alloc (.cells #[.string s, .int .i64 0, .int .i64 0, .string ⟨#[]⟩, .slice none 0 0, .slice none 0 0] 69)) W → (Below (wr.alloc (.cells #[.string s, .int .i64 0, .int .i64 0, .string ⟨#[]⟩, .slice none 0 0, .slice none 0 0] 69)).heap.size (wr.alloc (.cells #[.string s, .int .i64 0, .int .i64 0, .string ⟨#[]⟩, .slice none 0 0, .slice none 0 0] 69)) W ∧ W.cell? ⟨g2, off2, none⟩ = some (.int .u8 q0) ∧ W.cell? ⟨g2, off2 + 1, none⟩ = some (.int .u8 q1)) := fun W ho => by
                have e := bel_step (bel_alloc wr (.cells #[.string s, .int .i64 0, .int .i64 0, .string ⟨#[]⟩, .slice none 0 0, .slice none 0 0] 69)) ho
                exact ⟨ho, (e.cell (p := ⟨g2, off2, none⟩) hgl2).trans hq0, (e.cell (p := ⟨g2, off2 + 1, none⟩) hgl2).trans hq1⟩
              have KS := Ap.of hks
              have HTa := Ap.of (fun W (hW : Below (wr.alloc (.cells #[.string s, .int .i64 0, .int .i64 0, .string ⟨#[]⟩, .slice none 0 0, .slice none 0 0] 69)).heap.size (wr.alloc (.cells #[.string s, .int .i64 0, .int .i64 0, .string ⟨#[]⟩, .slice none 0 0, .slice none 0 0] 69)) W) => HT.out (q0 / 3) q1 e30 q10 q11 W (bel_step (bel_alloc wr (.cells #[.string s, .int .i64 0, .int .i64 0, .string ⟨#[]⟩, .slice none 0 0, .slice none 0 0] 69)) hW))
              have HTb := Ap.of (fun W (hW : Below (wr.alloc (.cells #[.string s, .int .i64 0, .int .i64 0, .string ⟨#[]⟩, .slice none 0 0, .slice none 0 0] 69)).heap.size (wr.alloc (.cells #[.string s, .int .i64 0, .int .i64 0, .string ⟨#[]⟩, .slice none 0 0, .slice none 0 0] 69)) W) => HT.out (IntKind.u8.wrap (q0.tdiv 3)) q1 e31.out q10 q11 W (bel_step (bel_alloc wr (.cells #[.string s, .int .i64 0, .int .i64 0, .string ⟨#[]⟩, .slice none 0 0, .slice none 0 0] 69)) hW))
              have HN1 := Ap.of (show wr.heap.size + 1 = (wr.alloc (.cells #[.string s, .int .i64 0, .int .i64 0, .string ⟨#[]⟩, .slice none 0 0, .slice none 0 0] 69)).heap.size by simp)
              have HZ6 := Ap.of (blk_draw (blk_new (w := (wr.alloc (.cells #[.string s, .int .i64 0, .int .i64 0, .string ⟨#[]⟩, .slice none 0 0, .slice none 0 0] 69))) (k := wr.heap.size + 1) (o := (.cells #[.string ⟨#[]⟩, .int .i64 0, .int .i64 0, .string ⟨#[]⟩, .slice none 0 0, .slice none 0 0] 69)) (by simp)))
              clear hks
              go_region_held3 (fun W => Below (wr.alloc (.cells #[.string s, .int .i64 0, .int .i64 0, .string ⟨#[]⟩, .slice none 0 0, .slice none 0 0] 69)).heap.size (wr.alloc (.cells #[.string s, .int .i64 0, .int .i64 0, .string ⟨#[]⟩, .slice none 0 0, .slice none 0 0] 69)) W ∧ W.cell? ⟨g2, off2, none⟩ = some (.int .u8 q0) ∧ W.cell? ⟨g2, off2 + 1, none⟩ = some (.int .u8 q1))
                (first
                  | with_reducible assumption
                  | (with_reducible (refine KS.out _ ?_; apply Below.drew; exact Below.refl _ _))
                  | (with_reducible (refine KS.out _ ?_; apply Below.drew; apply Below.alloc; exact Below.refl _ _; exact Nat.le_refl _))
                  | (with_reducible (refine KS.out _ ?_; apply bel_stepB _ _ hb3; exact And.left (by assumption); exact (Below.size (And.left (by assumption)))))
                  | (with_reducible (refine KS.out _ ?_; apply Below.alloc; exact (And.left (by assumption)); exact (Below.size (And.left (by assumption)))))
                  | (with_reducible (refine KS.out _ ?_; apply bel_after6; assumption))
                  | (with_reducible (refine KS.out _ ?_; apply bel_set6; exact (And.left (by assumption)); exact HN1.out)))
                (first
                  | (go_at_call 34; (first | (with_reducible refine (HTa.out _ (And.left (by assumption))).mono ?_) | (with_reducible refine (HTb.out _ (And.left (by assumption))).mono ?_)); rintro e w5 ⟨nm1, x, la1, ln1, lc1, fa1, fn1, fc1, rfl, hn, hx, hg, hb3⟩; (have HX := Ap.of hx); (have HG := Ap.of (And.intro hn hg)); (first | ((with_reducible have b6 := blk_bel HZ6.out hb3); have c8 := blk_cells b6; have f8 := blk_free b6; have l8 := blk_lt b6; clear b6) | skip); clear hx hn hg))
              all_goals
                have HB := Ap.of hb3
                clear hb3
                go_wp2_with fail
                go_meet
                first
                | (have _t := c8
                   with_reducible exact ⟨_, nm1, x, la1, ln1, lc1, fa1, fn1, fc1, rfl, HG, Ap.of (NewF.b HN1.out HX.out HB.out)⟩)
                | with_reducible exact ⟨_, nm1, x, la1, ln1, lc1, fa1, fn1, fc1, rfl, HG, Ap.of (NewF.a HX.out HB.out)⟩
            case rest =>
              obtain ⟨g16, nm1, x, la1, ln1, lc1, fa1, fn1, fc1, rfl, HG1, HN⟩ := hcut
              have b10 := blk_bel (blk_new (w := wr) (k := wr.heap.size) (o := .cells #[.string s, .int .i64 0, .int .i64 0, .string ⟨#[]⟩, .slice none 0 0, .slice none 0 0] 69) rfl) HN.out.2.2.2
              have c10 := blk_cells b10
              have f10 := blk_free b10
              have l10 := blk_lt b10
              have c16 := blk_cells HN.out.2.1
              have l16 := blk_lt HN.out.2.1
              have n16 : wr.heap.size + 1 ≤ g16 := by have h := HN.out.1; simp at h; exact h
              have HP := Ap.of (P12.mk HN.out)
              have HBC := Ap.of (HBB.out.below HN.out.2.2.2)
              clear b10
              have hs12 := only15 wc wr.heap.size (.int .i64 5) (.int .i64 0) (.string ⟨#[]⟩) (.slice none 0 0) (.slice (some ⟨wc.heap.size, 0, none⟩) 1 1)
              have HBA := Ap.of ((HBC.out.only hs12 (fun j hj he => by have := HOKW.out j hj; omega)).below (bel_alloc _ (.cells #[.string nm1, .int .i64 x.kind, .int .i64 x.int, .string x.text, .slice la1 ln1 lc1, .slice fa1 fn1 fc1] 69)))
              clear hs12 HBC
              go_upto_region 13 with fail
              clear c10 f10 l10 c16 l16 n16 HN
              generalize (((((wc.setCell ⟨wr.heap.size, 1, none⟩ (.int .i64 5)).setCell ⟨wr.heap.size, 2, none⟩ (.int .i64 0)).setCell ⟨wr.heap.size, 3, none⟩ (.string ⟨#[]⟩)).setCell ⟨wr.heap.size, 4, none⟩ (.slice none 0 0)).setCell ⟨wr.heap.size, 5, none⟩ (.slice (some ⟨wc.heap.size, 0, none⟩) 1 1)).alloc (.cells #[.string nm1, .int .i64 x.kind, .int .i64 x.int, .string x.text, .slice la1 ln1 lc1, .slice fa1 fn1 fc1] 69) = WA at *
              generalize wc.heap.size = gS at *
              go_cut [18, 19] (fun v18 _ wx => ∃ (g18 : Nat) (nm2 : ByteArray) (x2 : Val) (la : Option Addr) (ln lc : Nat) (fa : Option Addr) (fn fc : Nat), v18 = .pointer (some ⟨g18, 0, none⟩) ∧ Ap (nm2 ∈ testsOf ∧ GoodV 5 x2) ∧ Ap (NewF WA wx g18 nm2 x2 la ln lc fa fn fc))
              case first =>
                have hbA := HP.out.2.2.2.2.2.2
                have hks : ∀ W, Below WA.heap.size WA W → (Below WA.heap.size WA W ∧ W.cell? ⟨g2, off2 + 2, none⟩ = some (.int .u8 q2) ∧ W.cell? ⟨g2, off2 + 3, none⟩ = some (.int .u8 q3)) := fun W ho => by
                  have e := bel_stepB hbA hbA.size ho
                  exact ⟨ho, (e.cell (p := ⟨g2, off2 + 2, none⟩) hgl2).trans hq2, (e.cell (p := ⟨g2, off2 + 3, none⟩) hgl2).trans hq3⟩
                have KS := Ap.of hks
                have HTc := Ap.of (fun W (hW : Below WA.heap.size WA W) => HT.out q2 q3 q20 q30 q31 W (bel_stepB hbA hbA.size hW))
                have HZ6 := Ap.of (blk_draw (blk_new (w := WA) (k := WA.heap.size) (o := (.cells #[.string ⟨#[]⟩, .int .i64 0, .int .i64 0, .string ⟨#[]⟩, .slice none 0 0, .slice none 0 0] 69)) rfl))
                have e2 := (hbA.cell (p := ⟨g2, off2 + 2, none⟩) hgl2).trans hq2
                have e3 := (hbA.cell (p := ⟨g2, off2 + 3, none⟩) hgl2).trans hq3
                have lgA : g2 < WA.heap.size := Nat.lt_of_lt_of_le hgl2 (Nat.le_trans (by exact Nat.le_refl _) hbA.size)
                clear hks hbA hq0 hq1 hq2 hq3 cn
                go_region_held3 (fun W => Below WA.heap.size WA W ∧ W.cell? ⟨g2, off2 + 2, none⟩ = some (.int .u8 q2) ∧ W.cell? ⟨g2, off2 + 3, none⟩ = some (.int .u8 q3))
                  (first
                  | with_reducible assumption
                  | (with_reducible (refine KS.out _ ?_; apply Below.drew; exact Below.refl _ _))
                  | (with_reducible (refine KS.out _ ?_; apply Below.drew; apply Below.alloc; exact Below.refl _ _; exact Nat.le_refl _))
                  | (with_reducible (refine KS.out _ ?_; apply bel_stepB _ _ hb3; exact And.left (by assumption); exact (Below.size (And.left (by assumption)))))
                  | (with_reducible (refine KS.out _ ?_; apply Below.alloc; exact (And.left (by assumption)); exact (Below.size (And.left (by assumption)))))
                  | (with_reducible (refine KS.out _ ?_; apply bel_after6; assumption))
                  | (refine KS.out _ ?_; (with_reducible refine bel_set6 ?_ rfl _ _ _ _ _ _); (with_reducible exact And.left (by assumption))))
                  (first
                    | (go_at_call 34; (with_reducible refine (HTc.out _ (And.left (by assumption))).mono ?_); rintro e w5 ⟨nm2, x2, la2, ln2, lc2, fa2, fn2, fc2, rfl, hn, hx, hg, hb3⟩; (have HX := Ap.of hx); (have HG := Ap.of (And.intro hn hg)); (first | ((with_reducible have b6 := blk_bel HZ6.out hb3); have c8 := blk_cells b6; have f8 := blk_free b6; have l8 := blk_lt b6; clear b6) | skip); clear hx hn hg))
                all_goals
                  have HB := Ap.of hb3
                  clear hb3
                  go_wp2_with fail
                  go_meet
                  first
                  | (have _t := c8
                     with_reducible exact ⟨_, nm2, x2, la2, ln2, lc2, fa2, fn2, fc2, rfl, HG, Ap.of (NewF.b rfl HX.out HB.out)⟩)
                  | with_reducible exact ⟨_, nm2, x2, la2, ln2, lc2, fa2, fn2, fc2, rfl, HG, Ap.of (NewF.a HX.out HB.out)⟩
              case rest =>
                obtain ⟨g18, nm2, x2, la2, ln2, lc2, fa2, fn2, fc2, rfl, HG2, HN⟩ := hcut
                have HP2 := Ap.of (HP.out.below HN.out.2.2.2)
                have HB2 := Ap.of (HBA.out.below HN.out.2.2.2)
                have hb2 := HP2.out.2.2.2.2.2.2
                have c10 := blk_cells HP2.out.1
                have f10 := blk_free HP2.out.1
                have l10 := blk_lt HP2.out.1
                have c16 := blk_cells HP2.out.2.2.1
                have l16 := blk_lt HP2.out.2.2.1
                have c18 := blk_cells HN.out.2.1
                have l18 := blk_lt HN.out.2.1
                have e0 := (hb2.cell (p := ⟨g2, off2, none⟩) hgl2).trans hq0
                have lg2 : g2 < wc.heap.size := Nat.lt_of_lt_of_le hgl2 hb2.size
                clear hq0 hq1 hq2 hq3 cn hb2
                obtain ⟨A3, hrun, hB3⟩ := cutFrom (some ⟨g2, off2, none⟩) n cp 4 (by omega) hm1 hm2 (fun h => by cases h) 4 rfl
                have HB3 := Ap.of hB3
                clear hB3
                by_cases z1 : q0 % 3 = 1
                · have z1' : (q0 % 3 == 1) = true := by simpa using z1
                  have hcmp : (Op.bytesLess nm2.toList nm1.toList = false ∧ ¬ nm2.toList = nm1.toList ∧ (nm2.toList == nm1.toList) = false) ∨ (Op.bytesLess nm2.toList nm1.toList = true) ∨ (Op.bytesLess nm2.toList nm1.toList = false ∧ nm2.toList = nm1.toList ∧ (nm2.toList == nm1.toList) = true) := by
                    cases Op.bytesLess nm2.toList nm1.toList with
                    | true => exact .inr (.inl rfl)
                    | false =>
                      by_cases he : nm2.toList = nm1.toList
                      · exact .inr (.inr ⟨rfl, he, by simpa using he⟩)
                      · exact .inl ⟨rfl, he, by simpa using he⟩
                  rcases hcmp with ⟨l1, l2, l3⟩ | l1 | ⟨l1, l2, l3⟩
                  · have hO := own_one (K := KFld (KV (2 * d + 5))) (e := 69) (B := wr.heap.size) (ok := fun j => wr.heap.size < j) (x := (nm1, x)) (cs := [.string nm1, .int .i64 x.kind, .int .i64 x.int, .string x.text, .slice la1 ln1 lc1, .slice fa1 fn1 fc1]) HP2.out.2.1 (by have := HP2.out.2.2.2.1; have := HP2.out.2.2.2.2.1; omega) (by have := HP2.out.2.2.2.1; have := HP2.out.2.2.2.2.1; omega) ⟨_, rfl, tst_len HG1.out.1, (KV (2 * d + 5)).mono (fun k hk => ⟨hk.1, hk.2.2⟩) (KV_le (by omega) _ _ _ _ HP2.out.2.2.2.2.2.1)⟩
                    have OW := Ap.of hO
                    have HX2 := Ap.of (show (KFld (KV (2 * d + 5))).R wc (fun k => WA.heap.size ≤ k) (nm2, x2) [.string nm2, .int .i64 x2.kind, .int .i64 x2.int, .string x2.text, .slice la2 ln2 lc2, .slice fa2 fn2 fc2] from ⟨_, rfl, tst_len HG2.out.1, (KV (2 * d + 5)).mono (fun k hk => hk.1) (KV_le (by omega) _ _ _ _ HN.out.2.2.1)⟩)
                    have LS := Ap.of (And.intro (blk_lt HP.out.2.1) (And.intro HP.out.2.2.2.2.2.2.size HN.out.2.2.2.size))
                    have LP := Ap.of (And.intro HP2.out.2.2.2.1 HP2.out.2.2.2.2.1)
                    clear hO
                    go_wp2_with (at_builtin; refine wp_append (K := KFld (KV (2 * d + 5))) (tx := 69) (e := 69) (B := wr.heap.size) (ok := fun j => wr.heap.size < j) (okx := fun j => WA.heap.size ≤ j) (xs := [(nm1, x)]) (x := (nm2, x2)) (cs := [.string nm2, .int .i64 x2.kind, .int .i64 x2.int, .string x2.text, .slice la2 ln2 lc2, .slice fa2 fn2 fc2]) rfl _ _ 27 i0 _ 96 rfl Tryd.underlying27 HI.out.1 HI.out.2.1 HI.out.2.2.1 HI.out.2.2.2 rfl (Nat.succ_pos 5) rfl rfl ?a1 ?a2 ?a3 ?a4 ?a5 (show (1 + 1) * 96 ≤ 140737488355328 by decide) (show 1 + 1 ≤ 9223372036854775807 by decide) ?a8 ?_)
                    case a1 => exact OW.out.below (bel_alloc _ _)
                    case a2 => first | exact blk_new rfl | exact (Array.getElem?_eq_some_iff.1 (blk_new (w := wc) rfl)).2
                    case a3 => exact Knd.below HX2.out (bel_alloc _ _)
                    case a4 => exact fun j hj => ⟨by have h := LS.out; have h2 := LP.out; omega, fun he => by simp [Value.ownBlock] at he; have h := LS.out; omega⟩
                    case a5 => intro j hj; have h := LS.out; have h2 := LP.out; (try simp at hj); omega
                    case a8 => have h := LS.out; have h2 := LP.out; (try simp); omega
                    intro v5 w5 hO5 honly
                    obtain ⟨A5, c5, hv5, hrow⟩ := hO5.row
                    have hv5' : v5 = .slice A5 2 c5 := hv5
                    subst hv5'
                    have hne : ∀ j, (Value.slice (some ⟨gS, 0, none⟩) 1 1).ownBlock = some j → j = gS := fun j he => by simp [Value.ownBlock] at he; omega
                    have b10 := blk_only (blk_old HP2.out.1) honly (fun he => by have := hne _ he; have h := LP.out; omega)
                    have HB5 := Ap.of ((HB2.out.below (bel_alloc wc (.cells #[.string nm2, .int .i64 x2.kind, .int .i64 x2.int, .string x2.text, .slice la2 ln2 lc2, .slice fa2 fn2 fc2] 69))).only honly (fun j hj he => by have := hne _ he; have := HOKW.out j hj; have h := LP.out; omega))
                    have hbel := bel_stepB HP2.out.2.2.2.2.2.2 HP2.out.2.2.2.2.2.2.size (bel_alloc wc (.cells #[.string nm2, .int .i64 x2.kind, .int .i64 x2.int, .string x2.text, .slice la2 ln2 lc2, .slice fa2 fn2 fc2] 69))
                    have BL5 := Ap.of (bel_only hbel hbel.size honly (fun j he => by have := hne _ he; have h := LP.out; omega))
                    have HROW := Ap.of hrow
                    have B10 := Ap.of b10
                    have c10 := blk_cells b10
                    have f10 := blk_free b10
                    clear hrow b10 hv5 hO5 honly hbel hne
                    go_wp2_with fail
                    go_meet
                    have hs := Only.setCell w5 ⟨wr.heap.size, 5, none⟩ (.slice A5 2 c5)
                    exact ⟨A3, n - 4, cp - 4, .mk 5 0 ⟨#[]⟩ [] [(nm1, x), (nm2, x2)], none, 0, 0, A5, 2, c5, rfl, Ap.of ⟨HB3.out _ _ (HB5.out.only hs (fun j hj he => by have := HOKW.out j hj; simp at he; omega)), by have hq := blk_set B10.out 5 (.slice A5 2 c5); simp only [List.setIfInBounds_toArray, List.set] at hq; exact hq, .inl ⟨HSD.out, leaf_two HG1.out HG2.out⟩,
                      ⟨none, 0, 0, A5, 2, c5, rfl, i64_5, i64_0, empty_small, Row.nil _ _ _, HROW.out.only hs (fun j hj he => by simp at he; omega)⟩, bel_only BL5.out BL5.out.size hs (fun j he => by simp at he; omega)⟩⟩
                  · go_wp2_with fail
                    go_meet
                    exact ⟨A3, n - 4, cp - 4, _, none, 0, 0, some ⟨gS, 0, none⟩, 1, 1, rfl, Ap.of (rd_one (HB3.out _ _ HB2.out) HSD.out HG1.out HP2.out)⟩
                  · go_wp2_with fail
                    go_meet
                    exact ⟨A3, n - 4, cp - 4, _, none, 0, 0, some ⟨gS, 0, none⟩, 1, 1, rfl, Ap.of (rd_one (HB3.out _ _ HB2.out) HSD.out HG1.out HP2.out)⟩
                · have z1' : (q0 % 3 == 1) = false := by simpa using z1
                  cases hbl : Op.bytesLess nm2.toList nm1.toList with
                  | true =>
                    go_wp2_with fail
                    go_meet
                    exact ⟨A3, n - 4, cp - 4, _, none, 0, 0, some ⟨gS, 0, none⟩, 1, 1, rfl, Ap.of (rd_one (HB3.out _ _ HB2.out) HSD.out HG1.out HP2.out)⟩
                  | false =>
                    by_cases he : nm2.toList = nm1.toList
                    · have he' : (nm2.toList == nm1.toList) = true := by simpa using he
                      go_wp2_with fail
                      go_meet
                      exact ⟨A3, n - 4, cp - 4, _, none, 0, 0, some ⟨gS, 0, none⟩, 1, 1, rfl, Ap.of (rd_one (HB3.out _ _ HB2.out) HSD.out HG1.out HP2.out)⟩
                    · have he' : (nm2.toList == nm1.toList) = false := by simpa using he
                      go_wp2_with fail
                      go_meet
                      exact ⟨A3, n - 4, cp - 4, _, none, 0, 0, some ⟨gS, 0, none⟩, 1, 1, rfl, Ap.of (rd_one (HB3.out _ _ HB2.out) HSD.out HG1.out HP2.out)⟩
        case rest =>
          obtain ⟨A2, n2, c2, y, la2, ln2, lc2, fa2, fn2, fc2, rfl, HR⟩ := hcut
          have WS : Ap (w.heap.size + 3 ≤ wr.heap.size) := Ap.of (blk_lt B30.out)
          have BW := Ap.of HR.out.2.2.2.2
          have HY := Ap.of HR.out.2.2.2.1
          have b6 := blk_belB B6.out BW.out (blk_lt B6.out)
          have b4 := blk_belB B4.out BW.out (blk_lt B4.out)
          have b30 := blk_belB B30.out BW.out (blk_lt B30.out)
          have O3 := Ap.of (O.out.below BW.out)
          have BB4 := Ap.of b4
          have BB6 := Ap.of b6
          have BB30 := Ap.of b30
          have c6 := blk_cells b6
          have f6 := blk_free b6
          have l6 := blk_lt b6
          have c10 := blk_cells HR.out.2.1
          have l10 := blk_lt HR.out.2.1
          have LT := Ap.of O.out.lt
          have OB := Ap.of O.out.1
          have HSN := Ap.of (docn_small (List.mem_of_getElem? HS.out))
          clear cn ln30 b6 b4 b30
          go_wp2_with (at_builtin; refine wp_append (K := KFld (KV (2 * d + 6))) (tx := 69) (e := 69) (B := w.heap.size) (ok := fun j => w.heap.size + 3 ≤ j) (okx := fun j => wr.heap.size < j) (xs := xs) (x := (s, y)) (cs := [.string s, .int .i64 y.kind, .int .i64 y.int, .string y.text, .slice la2 ln2 lc2, .slice fa2 fn2 fc2]) rfl _ _ 27 i0 _ 96 rfl Tryd.underlying27 HI.out.1 HI.out.2.1 HI.out.2.2.1 HI.out.2.2.2 rfl (Nat.succ_pos 5) rfl rfl ?a1 ?a2 ?a3 ?a4 ?a5 ?a6 ?a7 ?a8 ?_)
          case a1 => exact O3.out.below (bel_alloc _ _)
          case a2 => first | exact blk_new rfl | exact (Array.getElem?_eq_some_iff.1 (blk_new (w := wc) rfl)).2
          case a3 => exact ⟨_, rfl, by have := HSN.out; show s.size ≤ maxLen; unfold maxLen; omega, Knd.below HY.out (bel_alloc _ _)⟩
          case a4 => exact fun j hj => ⟨by have := WS.out; omega, fun he => by have := (LT.out j he.symm).2; omega⟩
          case a5 => intro j hj; have := WS.out; have := BW.out.size; (try simp at hj); omega
          case a6 => rw [HXL.out]; omega
          case a7 => rw [HXL.out]; omega
          case a8 => have := l6; (try simp); omega
          intro v5 w5 hO5 honly
          obtain ⟨A5, c5, hv5, _, _⟩ := hO5.slice
          rw [show (xs ++ [(s, y)]).length = ln + 1 from by simp [HXL.out]] at hv5
          subst hv5
          have hn4 : ∀ j, j < w.heap.size + 3 → ¬ ((Value.slice la ln lc).ownBlock = some j) := fun j hj he => by have := OB.out j he; omega
          have b4 := blk_only (blk_old BB4.out) honly (hn4 _ (by omega))
          have b6 := blk_only (blk_old BB6.out) honly (hn4 _ (by omega))
          have b30 := blk_only (blk_old BB30.out) honly (hn4 _ (by omega))
          have hbw : Below w.heap.size w (wc.alloc (.cells #[.string s, .int .i64 y.kind, .int .i64 y.int, .string y.text, .slice la2 ln2 lc2, .slice fa2 fn2 fc2] 69)) := bel_stepB (bel_stepB BL.out BL.out.size BW.out) (by have := BL.out.size; have := BW.out.size; omega) (bel_alloc _ _)
          have BL5 := Ap.of (bel_only hbw hbw.size honly (fun j he => (LT.out j he).1))
          have HB5 := Ap.of ((HR.out.1.below (bel_alloc _ _)).only honly (fun j hj he => by have := HOK.out j hj; have := (LT.out j he).1; omega))
          have O5 := Ap.of hO5
          have BK4 := Ap.of b4
          have BK6 := Ap.of b6
          have BK30 := Ap.of b30
          have c6 := blk_cells b6
          have f6 := blk_free b6
          clear b4 b6 b30 hO5 honly hbw
          go_wp2_with fail
          go_roundw
          case rel =>
            have hs := Only.setCell w5 ⟨w.heap.size + 1, 4, none⟩ (.slice A5 (ln + 1) c5)
            refine ⟨k + 1, A2, n2, c2, A5, ln + 1, c5, xs ++ [(s, y)], by omega, by go_num, rfl, Ap.of (HB5.out.only hs (fun j hj he => by have := HOK.out j hj; simp at he; omega)), Ap.of (by simp [HXL.out]), by omega, Ap.of ?_, Ap.of (blk_only BK4.out hs (by simp)), Ap.of ?_, Ap.of (blk_only BK30.out hs (by simp)), Ap.of (O5.out.only hs (fun j hj he => by simp at he; omega)), Ap.of (bel_only BL5.out BL5.out.size hs (fun j he => by simp at he; omega))⟩
            · intro z hz
              rcases List.mem_append.1 hz with hz | hz
              · exact GD.out z hz
              · rw [List.mem_singleton.1 hz]; exact HR.out.2.2.1
            · simpa using blk_set BK6.out 4 (.slice A5 (ln + 1) c5)
          case measure => simp [intOf]; omega
    · obtain rfl : k = 7 := by omega
      have c4 := blk_cells B4.out
      have f4 := blk_free B4.out
      have c6 := blk_cells B6.out
      have l6 := blk_lt B6.out
      have l4 := blk_lt B4.out
      obtain ⟨A6, cx, hv6, hrow⟩ := O.out.row
      rw [HXL.out] at hv6 hrow
      injection hv6 with hv6 _ hv7
      subst hv6 hv7
      have HROW := Ap.of hrow
      clear hrow
      go_wp2_with fail
      have hs := only5 wr w.heap.size (.int .i64 5) (.int .i64 0) (.string ⟨#[]⟩) (.slice none 0 0) (.slice la ln lc)
      exact bodyPost_ret (v := .tuple #[.agg #[.int .i64 5, .int .i64 0, .string ⟨#[]⟩, .slice none 0 0, .slice la ln lc], .slice A n cp]) (by simp [results, Tryd.results20, go_sem, c4]) rfl
        ⟨.mk 5 0 ⟨#[]⟩ [] xs, none, 0, 0, la, ln, lc, A, n, cp, rfl, ⟨none, 0, 0, la, ln, lc, rfl, i64_5, i64_0, empty_small, Row.nil _ _ _, (HROW.out.only hs (fun j hj he => by omega)).mono (fun j hj => by omega)⟩,
          doc_mk (by rw [HXL.out]; omega) GD.out, B.out.only hs (fun j hj he => by have := HOK.out j hj; omega), bel_only BL.out BL.out.size hs (fun j he => by omega)⟩

theorem doc16_calls : ∀ d : Nat, d ≤ 101 → d ≠ 0 → DocS d
  | 0, _, h => (h rfl).elim
  | d + 1, hd, _ => by
    intro A n c w ok hok G hB
    rcases Nat.eq_zero_or_pos n with rfl | hn
    · exact doc_empty d A c w ok _
    obtain ⟨n, rfl⟩ : ∃ m, n = m + 1 := ⟨n - 1, by omega⟩
    have hB0 := hB
    obtain ⟨_, _, _, h0 | ⟨g, off, rfl, hg, hgl, hx⟩⟩ := hB0
    · omega
    obtain ⟨x, hc, _, _⟩ := hx 0 (by omega)
    rw [Nat.add_zero] at hc
    exact doc_step d (by omega) (doc16_calls d (by omega)) g off n c x ok w G hB hgl hc hok
end Go.Proofs.YtlomieopppndeaaDoor
