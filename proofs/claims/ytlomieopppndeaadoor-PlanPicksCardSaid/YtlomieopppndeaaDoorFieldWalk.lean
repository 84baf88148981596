/- filter.field; filter.Parse whole. -/
import Derived.Test.YtlomieopppndeaaDoorParseWalk
import Derived.Deep.RegionWith
namespace Go.Proofs.YtlomieopppndeaaDoor
open Go.RowKit

theorem res_err_set {dv d : Nat} {w w3 : World} {ok : Nat → Prop} {r : Except Int Flt} {c : Int} {m g : Nat} {cs : Array Value} (hw : Below w.heap.size w w3) (hr : r = .error c) (hE : ErrAt w3 m c (.iface 88 (.pointer (some ⟨g, 0, none⟩)))) (hbk : w3.heap[w.heap.size + 1]? = some (.cells cs 32 (0, 0))) :
    ResP dv d w ok r (.returned (.tuple #[.agg #[.int .i64 0, .string ⟨#[]⟩, .int .i64 0, .int .i64 0, .string ⟨#[]⟩, .slice none 0 0, .slice none 0 0, .slice none 0 0], .iface 88 (.pointer (some ⟨g, 0, none⟩))])) ((((((((w3.setCell ⟨w.heap.size + 1, 0, none⟩ (.int .i64 0)).setCell ⟨w.heap.size + 1, 1, none⟩ (.string ⟨#[]⟩)).setCell ⟨w.heap.size + 1, 2, none⟩ (.int .i64 0)).setCell ⟨w.heap.size + 1, 3, none⟩ (.int .i64 0)).setCell ⟨w.heap.size + 1, 4, none⟩ (.string ⟨#[]⟩)).setCell ⟨w.heap.size + 1, 5, none⟩ (.slice none 0 0)).setCell ⟨w.heap.size + 1, 6, none⟩ (.slice none 0 0)).setCell ⟨w.heap.size + 1, 7, none⟩ (.slice none 0 0)) := by
  have hs := only8 w3 (w.heap.size + 1) (.int .i64 0) (.string ⟨#[]⟩) (.int .i64 0) (.int .i64 0) (.string ⟨#[]⟩) (.slice none 0 0) (.slice none 0 0) (.slice none 0 0)
  exact ResP.err hr (ErrAt.only hs (fun g2 cs2 hg2 e => by
    rw [e, hbk] at hg2
    simp at hg2) hE) (bel_only hw hw.size hs (fun j he => by omega))
theorem gz_set80 {W : World} {g n : Nat} {t : TypeId} (h : GZ g n t W) (v0 v1 v2 v3 v4 v5 v6 v7 : Value) : GZ g n t ((((((((W.setCell ⟨g, 0, none⟩ v0).setCell ⟨g, 1, none⟩ v1).setCell ⟨g, 2, none⟩ v2).setCell ⟨g, 3, none⟩ v3).setCell ⟨g, 4, none⟩ v4).setCell ⟨g, 5, none⟩ v5).setCell ⟨g, 6, none⟩ v6).setCell ⟨g, 7, none⟩ v7) := by
  obtain ⟨cur, a, b⟩ := h
  exact ⟨_, blk_set (blk_set (blk_set (blk_set (blk_set (blk_set (blk_set (blk_set a 0 v0) 1 v1) 2 v2) 3 v3) 4 v4) 5 v5) 6 v6) 7 v7, by simpa using b⟩

set_option maxRecDepth 100000 in
set_option maxHeartbeats 4000000 in
theorem field_step (dv D : Nat) (ih : ParseS dv D) : FieldS dv (D + 1) := by
  intro F nm y la2 ln2 lc2 fa2 fn2 fc2 ok w hF hdv hok hnm hsz hN G hy
  obtain ⟨F, rfl⟩ : ∃ F', F = F' + 1 := ⟨F - 1, by omega⟩
  obtain ⟨hN1, hN2, hNl, hNf⟩ := hN
  have hyl := (KV_parts hy).2.2.2.1
  have hyf := (KV_parts hy).2.2.2.2
  have hb2 := bel_step (bel_alloc w (.cells #[.string nm, .int .i64 y.kind, .int .i64 y.int, .string y.text, .slice la2 ln2 lc2, .slice fa2 fn2 fc2] 69)) (bel_alloc _ (.cells #[.int .i64 0, .string ⟨#[]⟩, .int .i64 0, .int .i64 0, .string ⟨#[]⟩, .slice none 0 0, .slice none 0 0, .slice none 0 0] 32))
  have bf := blk_old (o' := .cells #[.int .i64 0, .string ⟨#[]⟩, .int .i64 0, .int .i64 0, .string ⟨#[]⟩, .slice none 0 0, .slice none 0 0, .slice none 0 0] 32) (blk_new (w := w) (k := w.heap.size) (o := .cells #[.string nm, .int .i64 y.kind, .int .i64 y.int, .string y.text, .slice la2 ln2 lc2, .slice fa2 fn2 fc2] 69) rfl)
  have br := blk_new (w := w.alloc (.cells #[.string nm, .int .i64 y.kind, .int .i64 y.int, .string y.text, .slice la2 ln2 lc2, .slice fa2 fn2 fc2] 69)) (k := w.heap.size + 1) (o := .cells #[.int .i64 0, .string ⟨#[]⟩, .int .i64 0, .int .i64 0, .string ⟨#[]⟩, .slice none 0 0, .slice none 0 0, .slice none 0 0] 32) (by simp)
  have HNM := Ap.of (named_calls nm _ (G.below hb2))
  have hFD : fieldD (F + 1) (nm, y) = (if namedI nm = 0 ∨ namedI nm = 1 then (if y.kind ≠ 4 ∨ y.list = [] then .error 7 else manyE (namedI nm) (parseE (fieldD F)) y.list)
    else if pre36 nm = true then .error 8 else if pathOk nm = false then .error 6 else if isTests y = true then manyE 0 (testF nm) y.fields else .ok (.mk 2 nm y [])) := rfl
  generalize fieldD (F + 1) (nm, y) = res at *
  have HB2 := Ap.of hb2
  have HOK := Ap.of hok
  have HS2 := Ap.of (show ((w.alloc (.cells #[.string nm, .int .i64 y.kind, .int .i64 y.int, .string y.text, .slice la2 ln2 lc2, .slice fa2 fn2 fc2] 69)).alloc (.cells #[.int .i64 0, .string ⟨#[]⟩, .int .i64 0, .int .i64 0, .string ⟨#[]⟩, .slice none 0 0, .slice none 0 0, .slice none 0 0] 32)).heap.size = w.heap.size + 2 by simp)
  by_cases h01 : namedI nm = 0 ∨ namedI nm = 1
  · rw [if_pos h01] at hFD
    by_cases hl : y.kind ≠ 4 ∨ y.list = []
    · rw [if_pos hl] at hFD
      have HFD := Ap.of hFD
      have hl' : ((y.kind == 4) = false) ∨ (y.kind = 4 ∧ ln2 = 0) := by
        rcases hl with h | h
        · exact .inl (by simpa using h)
        · by_cases h4 : y.kind = 4
          · exact .inr ⟨h4, by rw [← hyl.length, h]; rfl⟩
          · exact .inl (by simpa using h4)
      clear hFD hl ih hsz hN1 hN2 hNl hNf G hy hyl hyf hb2 bf br hok hF hdv hnm
      generalize namedI nm = o at *
      generalize y.kind = yk at *
      generalize y.int = yi at *
      generalize y.text = yt at *
      rcases hl' with t4 | ⟨rfl, rfl⟩
      all_goals (
        rcases h01 with rfl | rfl
        all_goals (
          go_enter Tryd.func36, Tryd.ntmps36
          go_wp2_with fail
          refine HNM.out.mono ?_
          rintro e w1 ⟨rfl, rfl⟩
          go_wp2_with fail
          refine (new_calls 7 (by decide) _ _).mono ?_
          rintro e w1 ⟨rfl, rfl⟩
          go_wp2_with fail
          exact bodyPost_ret (v := .tuple #[.agg #[.int .i64 0, .string ⟨#[]⟩, .int .i64 0, .int .i64 0, .string ⟨#[]⟩, .slice none 0 0, .slice none 0 0, .slice none 0 0], .iface 88 (.pointer (some ⟨w.heap.size + 1 + 1, 0, none⟩))]) (by simp [results, Tryd.results36, go_sem]) rfl
            (ResP.err (m := 1) HFD.out ⟨_, _, _, rfl, blk_new (by simp), rfl⟩ (bel_step (bel_step (bel_alloc _ _) (bel_alloc _ _)) (bel_alloc _ _)))))
    · rw [if_neg hl] at hFD
      subst hFD
      have h4 : y.kind = 4 := Decidable.byContradiction (fun h => hl (.inl h))
      have hln : ln2 ≠ 0 := fun h => hl (.inr (List.length_eq_zero_iff.1 (hyl.length.trans h)))
      have hcall : Calls Tryd.prog 50 #[.int .i64 (namedI nm), .slice la2 ln2 lc2, .func (.func 21) #[] #[]] ((w.alloc (.cells #[.string nm, .int .i64 y.kind, .int .i64 y.int, .string y.text, .slice la2 ln2 lc2, .slice fa2 fn2 fc2] 69)).alloc (.cells #[.int .i64 0, .string ⟨#[]⟩, .int .i64 0, .int .i64 0, .string ⟨#[]⟩, .slice none 0 0, .slice none 0 0, .slice none 0 0] 32)) (ResP dv (D + 2) ((w.alloc (.cells #[.string nm, .int .i64 y.kind, .int .i64 y.int, .string y.text, .slice la2 ln2 lc2, .slice fa2 fn2 fc2] 69)).alloc (.cells #[.int .i64 0, .string ⟨#[]⟩, .int .i64 0, .int .i64 0, .string ⟨#[]⟩, .slice none 0 0, .slice none 0 0, .slice none 0 0] 32)) ok (manyE (namedI nm) (parseE (fieldD F)) y.list)) := by
        cases D with
        | zero =>
          obtain ⟨_, _, _, _, _, _, hh, _⟩ := hyl.elem (Nat.pos_of_ne_zero hln)
          exact hh.elim
        | succ D =>
          exact manyV_calls dv (D + 2) D (namedI nm) (by have := namedI_bounds nm; unfold inI64; omega) la2 ln2 lc2 y.list ok _ (fun k hk => Nat.lt_of_lt_of_le (hok k hk) hb2.size) (by rw [← hyl.length]; exact hN1) (hyl.below hb2) (parseE (fieldD F)) (fun z l5 m5 c5 g5 f5 h5 W hW hR hm =>
            ih F z l5 m5 c5 g5 f5 h5 ok W (by omega) (by omega) (fun k hk => Nat.lt_of_lt_of_le (hok k hk) (Nat.le_trans hb2.size hW.size)) (hNl _ hm) (G.below (bel_step hb2 hW)) hR)
      have HC := Ap.of hcall
      have HBR := Ap.of br
      have t0 : ((ln2 : Int) == 0) = false := by simpa using hln
      have t0' : (ln2 == 0) = false := by simpa using hln
      clear hcall hl ih hsz hN1 hN2 hNl hNf G hy hyl hyf hb2 bf br hok hF hdv hnm hln
      generalize manyE (namedI nm) (parseE (fieldD F)) y.list = res at *
      generalize namedI nm = o at *
      generalize y.kind = yk at *
      generalize y.int = yi at *
      generalize y.text = yt at *
      subst h4
      rcases h01 with rfl | rfl
      all_goals (
        go_enter Tryd.func36, Tryd.ntmps36
        go_wp2_with fail
        refine HNM.out.mono ?_
        rintro e w1 ⟨rfl, rfl⟩
        go_wp2_with fail
        refine HC.out.mono ?_
        rintro e w3 ⟨f, la, ln, lc, fa, fn, fc, sa, sn, sc, er, rfl, hR, hb, hd⟩
        have br3 := blk_bel HBR.out hb
        have HD := Ap.of (And.intro hR (And.intro hb (And.intro hd br3)))
        have dr := blk_cells br3
        have fr := blk_free br3
        have lr := blk_lt br3
        clear hR hb hd br3
        go_wp2_with fail
        exact bodyPost_ret (v := .tuple #[.agg #[.int .i64 f.op, .string f.path, .int .i64 f.val.kind, .int .i64 f.val.int, .string f.val.text, .slice la ln lc, .slice fa fn fc, .slice sa sn sc], er]) (by simp [results, Tryd.results36, go_sem, dr]) rfl
          (res_set HOK.out HB2.out (by rw [HS2.out]; omega) HD.out.2.1 HD.out.1 HD.out.2.2.1 HD.out.2.2.2))
  rw [if_neg h01] at hFD
  have t0 : (namedI nm == 0) = false := by simpa using fun h => h01 (.inl h)
  have t1 : (namedI nm == 1) = false := by simpa using fun h => h01 (.inr h)
  have HPF := Ap.of (show ∀ W, Calls Tryd.prog 51 #[.string nm, .string ⟨#[36]⟩] W (fun e w' => e = .returned (.bool (pre36 nm)) ∧ w' = W) from fun W => Tryd.strings_HasPrefix nm ⟨#[36]⟩ W)
  clear h01 ih
  by_cases hp : pre36 nm = true
  · rw [if_pos hp] at hFD
    have HFD := Ap.of hFD
    rw [hp] at HPF
    clear hFD hsz hN1 hN2 hNl hNf G hy hyl hyf hb2 bf br hok hF hdv hnm hp
    generalize namedI nm = o at *
    generalize y.kind = yk at *
    generalize y.int = yi at *
    generalize y.text = yt at *
    go_enter Tryd.func36, Tryd.ntmps36
    go_wp2_with fail
    refine HNM.out.mono ?_
    rintro e w1 ⟨rfl, rfl⟩
    go_wp2_with fail
    refine (HPF.out _).mono ?_
    rintro e w1 ⟨rfl, rfl⟩
    go_wp2_with fail
    refine (new_calls 8 (by decide) _ _).mono ?_
    rintro e w1 ⟨rfl, rfl⟩
    go_wp2_with fail
    exact bodyPost_ret (v := .tuple #[.agg #[.int .i64 0, .string ⟨#[]⟩, .int .i64 0, .int .i64 0, .string ⟨#[]⟩, .slice none 0 0, .slice none 0 0, .slice none 0 0], .iface 88 (.pointer (some ⟨w.heap.size + 1 + 1, 0, none⟩))]) (by simp [results, Tryd.results36, go_sem]) rfl
      (ResP.err (m := 1) HFD.out ⟨_, _, _, rfl, blk_new (by simp), rfl⟩ (bel_step (bel_step (bel_alloc _ _) (bel_alloc _ _)) (bel_alloc _ _)))
  rw [if_neg hp] at hFD
  have hp' : pre36 nm = false := by simpa using hp
  rw [hp'] at HPF
  have hsz' : nm.size < 4294967281 := hsz.elim (fun h => (hp h).elim) id
  have HPA := Ap.of (parse_callsP nm _ hsz' (G.below hb2).par)
  have HTE := Ap.of (fun W (hW : Below w.heap.size w W) => tests_calls D y la2 ln2 lc2 fa2 fn2 fc2 W (KV_deeper _ _ _ _ _ ((KV (D + 1)).mono (fun _ _ => trivial) (Knd.below hy hW))))
  have HMT := Ap.of (show ∀ gp W, Below w.heap.size w W → W.cell? ⟨gp, 0, none⟩ = some (.string nm) → isTests y = true → Calls Tryd.prog 35 #[.int .i64 0, .slice fa2 fn2 fc2, .func (.func 73) #[] #[.pointer (some ⟨gp, 0, none⟩)]] W (ResP dv (D + 2) W ok (manyE 0 (testF nm) y.fields)) from fun gp W hW hgp ht => by
    cases D with
    | zero =>
      exfalso
      unfold isTests at ht
      cases hfs : y.fields with
      | nil => rw [hfs] at ht; cases ht
      | cons f r =>
        obtain ⟨_, _, _, _, _, _, ⟨_, _, _, hh⟩, _⟩ := hyf.elem (i := 0) (by rw [← hyf.length, hfs]; simp)
        exact hh.elim
    | succ D =>
      exact manyT_calls dv (D + 2) D 0 ⟨by decide, by decide⟩ fa2 fn2 fc2 y.fields ok W gp (fun k hk => Nat.lt_of_lt_of_le (hok k hk) hW.size) (by rw [← hyf.length]; exact hN2) (hyf.below hW) (testF nm) (fun n2 z l5 m5 c5 g5 f5 h5 W2 hW2 hnm2 hR hm =>
        test1_calls dv (D + 2) n2 z l5 m5 c5 g5 f5 h5 nm gp ok W2 ((hW2.cell (p := ⟨gp, 0, none⟩) (World.block_lt_of_cell? _ _ hgp)).trans hgp) hnm (G.below (bel_step hW hW2)) (KV_le (by omega) _ _ _ _ hR)))
  have HNSZ := Ap.of hnm
  have HY := Ap.of ((KV (D + 1)).bound hy)
  have HDV := Ap.of hdv
  have HBF := Ap.of bf
  have HBR := Ap.of br
  have HFD := Ap.of hFD
  clear hp hp' hFD hsz hsz' hN1 hN2 hNl hNf G hy hyl hyf hb2 bf br hok hF hdv hnm
  generalize namedI nm = o at *
  go_enter Tryd.func36, Tryd.ntmps36
  go_wp2_with fail
  refine HNM.out.mono ?_
  rintro e w1 ⟨rfl, rfl⟩
  go_wp2_with fail
  refine (HPF.out _).mono ?_
  rintro e w1 ⟨rfl, rfl⟩
  go_wp2_with fail
  refine HPA.out.mono ?_
  rintro e w3 (⟨hpk, g, rfl, hg, hs, hb⟩ | ⟨hpk, g, rfl, hE, hb⟩)
  case' inr =>
    have HFD2 := Ap.of (HFD.out.trans (if_pos hpk))
    have HB3 := Ap.of (bel_step HB2.out hb)
    have HE := Ap.of hE
    have br3 := blk_bel HBR.out hb
    have HBR3 := Ap.of br3
    clear hpk hE hb br3
    go_wp2_with fail
    refine (wrapz_calls 1 6 _ _ _ HE.out).mono ?_
    rintro e w4 ⟨⟨g4, rfl, hE4⟩, hb⟩
    have HE4 := Ap.of hE4
    have HB4 := Ap.of (bel_step HB3.out hb)
    have br4 := blk_bel HBR3.out hb
    have HBR4 := Ap.of br4
    have dr := blk_cells br4
    have fr := blk_free br4
    have lr := blk_lt br4
    clear hE4 hb br4
    go_wp2_with fail
    exact bodyPost_ret (v := .tuple #[.agg #[.int .i64 0, .string ⟨#[]⟩, .int .i64 0, .int .i64 0, .string ⟨#[]⟩, .slice none 0 0, .slice none 0 0, .slice none 0 0], .iface 88 (.pointer (some ⟨g4, 0, none⟩))]) (by simp [results, Tryd.results36, go_sem, dr]) rfl
      (res_err_set HB4.out HFD2.out HE4.out HBR4.out)
  have HFD2 := Ap.of (HFD.out.trans (if_neg (by rw [hpk]; decide)))
  have HB3 := Ap.of (bel_step HB2.out hb)
  have bf3 := blk_bel HBF.out hb
  have br3 := blk_bel HBR.out hb
  have HBF3 := Ap.of bf3
  have HBR3 := Ap.of br3
  have df := blk_cells bf3
  have lf := blk_lt bf3
  clear hpk hg hs hb bf3 br3
  go_wp2_with fail
  refine (HTE.out _ HB3.out).mono ?_
  rintro e w4 ⟨rfl, hb⟩
  have HB4 := Ap.of (bel_step HB3.out hb)
  have bf4 := blk_bel HBF3.out hb
  have br4 := blk_bel HBR3.out hb
  have HBF4 := Ap.of bf4
  have HBR4 := Ap.of br4
  have df4 := blk_cells bf4
  have lf4 := blk_lt bf4
  have dr4 := blk_cells br4
  have fr4 := blk_free br4
  have lr4 := blk_lt br4
  have S4 := Ap.of (Nat.le_trans (Nat.le_of_eq HS2.out.symm) (show ((w.alloc (.cells #[.string nm, .int .i64 y.kind, .int .i64 y.int, .string y.text, .slice la2 ln2 lc2, .slice fa2 fn2 fc2] 69)).alloc (.cells #[.int .i64 0, .string ⟨#[]⟩, .int .i64 0, .int .i64 0, .string ⟨#[]⟩, .slice none 0 0, .slice none 0 0, .slice none 0 0] 32)).heap.size ≤ w4.heap.size from Nat.le_trans (by have := HB3.out.size; simp; exact Nat.lt_of_lt_of_le (blk_lt HBR3.out) (Nat.le_refl _)) hb.size))
  clear hb bf4 br4 df lf
  cases ht : isTests y
  · have HFD3 := Ap.of (HFD2.out.trans (if_neg (by rw [ht]; decide)))
    clear ht
    go_wp2_with fail
    exact bodyPost_ret (v := .tuple #[.agg #[.int .i64 2, .string nm, .int .i64 y.kind, .int .i64 y.int, .string y.text, .slice la2 ln2 lc2, .slice fa2 fn2 fc2, .slice none 0 0], .nilIface]) (by simp [results, Tryd.results36, go_sem, dr4]) rfl
      (res_set (f := .mk 2 nm y []) (la := la2) (ln := ln2) (lc := lc2) (fa := fa2) (fn := fn2) (fc := fc2) (sa := none) (sn := 0) (sc := 0) (wc := w4) HOK.out HB4.out (by have := S4.out; omega) (Below.refl _ _)
        (KF_mk (f := .mk 2 nm y []) (show inI64 2 from ⟨by decide, by decide⟩) HNSZ.out ((KV (dv + 1)).mono (fun k hk => .inl hk.1) (KV_le HDV.out _ _ _ _ (Knd.below HY.out HB4.out))) (Row.nil _ _ _)) (.inl ⟨HFD3.out, rfl⟩) HBR4.out)
  · have HFD3 := Ap.of (HFD2.out.trans (if_pos ht))
    have HTT := Ap.of ht
    have HMC := Ap.of (show ∀ gp W, Below w4.heap.size w4 W → W.cell? ⟨gp, 0, none⟩ = some (.string nm) → Calls Tryd.prog 35 #[.int .i64 0, .slice fa2 fn2 fc2, .func (.func 73) #[] #[.pointer (some ⟨gp, 0, none⟩)]] W (ResP dv (D + 2) W ok (manyE 0 (testF nm) y.fields)) from fun gp W ho hc => HMT.out gp W (bel_step HB4.out ho) hc HTT.out)
    clear ht dr4 fr4 lr4
    go_wp2_with fail
    go_region_with (first
      | (go_at_call 54; refine (test_calls nm _).mono ?_; rintro e w7 ⟨rfl, rfl⟩)
      | (go_at_call 35; refine (HMC.out _ _ (Below.alloc (bel_draw w4) (Nat.le_refl _) _) (blk_cells (blk_new rfl) 0)).mono ?_; rintro e w8 ⟨f, la, ln, lc, fa, fn, fc, sa, sn, sc, er, rfl, hR, hb3, hd⟩; have br8 := blk_bel (blk_old (blk_draw HBR4.out)) hb3; have dr8 := blk_cells br8; have fr8 := blk_free br8; have lr8 := blk_lt br8; have HD := Ap.of (And.intro hR (And.intro hd (And.intro hb3 br8))); clear hR hd hb3 br8))
    all_goals (
      go_wp2_with fail
      exact bodyPost_ret (v := .tuple #[.agg #[.int .i64 f.op, .string f.path, .int .i64 f.val.kind, .int .i64 f.val.int, .string f.val.text, .slice la ln lc, .slice fa fn fc, .slice sa sn sc], er]) (by simp [results, Tryd.results36, go_sem, dr8]) rfl
        (res_set HOK.out (bel_step HB4.out (Below.alloc (bel_draw w4) (Nat.le_refl _) (.cells #[.string nm] 9))) (by have := S4.out; simp; omega) HD.out.2.2.1 HD.out.1 (by rw [HFD3.out]; exact HD.out.2.1) HD.out.2.2.2))
theorem parse_both (dv : Nat) : ∀ D, FieldS dv D ∧ ParseS dv D
  | 0 => ⟨by intro F nm y la2 ln2 lc2 fa2 fn2 fc2 ok w _ _ _ _ _ _ _ hy; exact hy.elim, by intro F y la2 ln2 lc2 fa2 fn2 fc2 ok w _ _ _ _ _ hy; exact hy.elim⟩
  | D + 1 => ⟨field_step dv D (parse_both dv D).2, parse_step dv D (parse_both dv D).1⟩
theorem filter_calls (dv D : Nat) : ParseS dv D := (parse_both dv D).2
end Go.Proofs.YtlomieopppndeaaDoor
