/- FilterMeets' walk. -/
import Derived.Test.YtlomieopppndeaaGreatDoorFilReads
import Derived.Test.YtlomieopppndeaaGreatDoorMeets3
namespace Go.Proofs.YtlomieopppndeaaGreatDoor
open Go.RowKit
attribute [local go_sem] max2_int min2_int

set_option maxRecDepth 100000 in
set_option maxHeartbeats 8000000 in
theorem meets_law_calls (A0 : Option Addr) (n0 c0 : Nat) (A1 : Option Addr) (n1 c1 : Nat) (w : World) (b0 : Bs w (fun k => k < w.heap.size) A0 n0 c0) (b1 : Bs w (fun k => k < w.heap.size) A1 n1 c1) (G : JoG w) :
    Calls Tryz.prog 6 #[.slice A0 n0 c0, .slice A1 n1 c1] w fun e w' => e = .returned (.bool true) ∧ Below w.heap.size w w' := by
  obtain ⟨N, hN⟩ : ∃ N : Nat, min (n0 : Int) 80 = (N : Int) := ⟨min n0 80, by omega⟩
  have hNl : N ≤ n0 := by omega
  have hrun0 := cutTo A0 n0 c0 N b0.1 b0.2.1 b0.2.2.1 hNl
  have B0 := Ap.of (b0.take hNl)
  have B1 := Ap.of b1
  have hn0 := b0.1
  have hc0 := b0.2.1
  have GG := Ap.of G
  clear G b0 b1
  go_enter Tryz.func6, Tryz.ntmps6
  go_wp2_with fail
  refine (fawake_calls w GG.out.aw).mono ?_
  rintro e w1 ⟨rfl, hb⟩
  have HB1 := Ap.of hb
  have G1 := Ap.of (GG.out.below hb)
  clear hb
  go_wp2_with fail
  refine (doc3_calls A0 N c0 w1 _ (fun k hk => Nat.lt_of_lt_of_le hk HB1.out.size) G1.out.te (B0.out.below HB1.out)).mono ?_
  rintro e w2 ⟨v, la, ln, lc, fa, fn, fc, A5, n5, c5, rfl, hv, hdv, hb⟩
  have hb2 := bel_step HB1.out (bel_step hb (bel_alloc w2 (.cells #[.int .i64 v.kind, .int .i64 v.int, .string v.text, .slice la ln lc, .slice fa fn fc] 28)))
  have HV := Ap.of ((KV 11).mono (ok' := fun _ => True) (fun _ _ => trivial) (Knd.below hv (bel_alloc w2 (.cells #[.int .i64 v.kind, .int .i64 v.int, .string v.text, .slice la ln lc, .slice fa fn fc] 28))))
  have HDV := Ap.of hdv
  have G2 := Ap.of (GG.out.below hb2)
  have HB2 := Ap.of hb2
  have BV := Ap.of (blk_new (w := w2) (k := w2.heap.size) (o := .cells #[.int .i64 v.kind, .int .i64 v.int, .string v.text, .slice la ln lc, .slice fa fn fc] 28) rfl)
  clear hv hdv hb hb2 hrun0
  go_upto_region 4 with fail
  generalize w2.alloc (.cells #[.int .i64 v.kind, .int .i64 v.int, .string v.text, .slice la ln lc, .slice fa fn fc] 28) = U2 at *
  generalize w2.heap.size = g7 at *
  have c7 := blk_cells BV.out
  have l7 := blk_lt BV.out
  have HNV := Ap.of (nok_doc 3 v HDV.out)
  have HPX := Ap.of (filter_calls 10 11 11 v la ln lc fa fn fc (fun k => k < U2.heap.size) U2 (by decide) (by decide) (fun k hk => hk) HNV.out G2.out.aw.fil (R_lt HV.out))
  have HWX := Ap.of (fun W (hW : Below U2.heap.size U2 W) => wrong_doc 3 11 v la ln lc fa fn fc (fun _ => True) W (by decide) HDV.out (G2.out.below hW).te (Knd.below HV.out hW))
  go_wp2_with fail
  refine HPX.out.mono ?_
  rintro e w4 ⟨f, pa, pb, pc, pd, pe, pf, pg, ph, pi, er1, rfl, hR, hb, hd⟩
  have hb4 := bel_step hb (bel_alloc w4 (.cells #[.int .i64 f.op, .string f.path, .int .i64 f.val.kind, .int .i64 f.val.int, .string f.val.text, .slice pa pb pc, .slice pd pe pf, .slice pg ph pi] 42))
  have BF := Ap.of (blk_new (w := w4) (k := w4.heap.size) (o := .cells #[.int .i64 f.op, .string f.path, .int .i64 f.val.kind, .int .i64 f.val.int, .string f.val.text, .slice pa pb pc, .slice pd pe pf, .slice pg ph pi] 42) rfl)
  have HFR := Ap.of ((KF 11 13).mono (ok' := fun _ => True) (fun _ _ => trivial) (Knd.below hR (bel_alloc w4 (.cells #[.int .i64 f.op, .string f.path, .int .i64 f.val.kind, .int .i64 f.val.int, .string f.val.text, .slice pa pb pc, .slice pd pe pf, .slice pg ph pi] 42))))
  have B7 := Ap.of (blk_bel BV.out hb4)
  have d7 := blk_cells (blk_bel BV.out hb)
  have m7 := blk_lt (blk_bel BV.out hb)
  have G4 := Ap.of (G2.out.below hb4)
  have HB4 := Ap.of (bel_step HB2.out hb4)
  have HB4X := Ap.of hb4
  have HWC := Ap.of (HWX.out _ hb4)
  have HV4 := Ap.of (Knd.below HV.out hb4)
  clear hR hb hb4 c7 l7 HPX HWX HV
  rcases hd with ⟨hf, rfl⟩ | ⟨c, m, g, hc, hz, rfl, hE⟩
  · have HFP := Ap.of hf
    clear hf
    go_wp2_with fail
    refine HWC.out.mono ?_
    rintro e w5 ⟨r, rfl, hd2, hb5⟩
    rcases hd2 with ⟨rfl, _⟩ | ⟨_, he⟩
    · have BF5 := Ap.of (blk_bel BF.out hb5)
      have BV5 := Ap.of (blk_bel B7.out hb5)
      have HF5 := Ap.of (Knd.below HFR.out hb5)
      have HV5 := Ap.of (Knd.below HV4.out hb5)
      have G5 := Ap.of (G4.out.below hb5)
      have HB5 := Ap.of (bel_step HB4.out hb5)
      clear hb5 d7 m7 HWC HFR HV4 B7 BF G4
      go_wp2_with fail
      refine (of_calls A1 n1 c1 w5 _ (fun k hk => Nat.lt_of_lt_of_le hk HB5.out.size) G5.out.te.laid (B1.out.below HB5.out)).mono ?_
      rintro e w10 ⟨doc, la3, ln3, lc3, fa3, fn3, fc3, rfl, hd, hgd, hb⟩
      have hb10 := bel_step hb (bel_alloc w10 (.cells #[.int .i64 doc.kind, .int .i64 doc.int, .string doc.text, .slice la3 ln3 lc3, .slice fa3 fn3 fc3] 28))
      have HD := Ap.of ((KV 4).mono (ok' := fun _ => True) (fun _ _ => trivial) (Knd.below hd (bel_alloc w10 (.cells #[.int .i64 doc.kind, .int .i64 doc.int, .string doc.text, .slice la3 ln3 lc3, .slice fa3 fn3 fc3] 28))))
      have BD := Ap.of (blk_new (w := w10) (k := w10.heap.size) (o := .cells #[.int .i64 doc.kind, .int .i64 doc.int, .string doc.text, .slice la3 ln3 lc3, .slice fa3 fn3 fc3] 28) rfl)
      have HFW := Ap.of (Few.of_good hgd)
      have BFX := Ap.of (blk_bel BF5.out hb10)
      have BVX := Ap.of (blk_bel BV5.out hb10)
      have HFX := Ap.of (Knd.below HF5.out hb10)
      have HVX := Ap.of (Knd.below HV5.out hb10)
      have GX := Ap.of (G5.out.below hb10)
      have HBX := Ap.of (bel_step HB5.out hb10)
      clear hd hgd hb hb10 HF5 HV5 G5 BF5 BV5 HB5
      go_upto_region 8 with fail
      generalize w10.alloc (.cells #[.int .i64 doc.kind, .int .i64 doc.int, .string doc.text, .slice la3 ln3 lc3, .slice fa3 fn3 fc3] 28) = UX at *
      generalize w10.heap.size = g20 at *
      generalize w4.heap.size = g11 at *
      have HMF := Ap.of (fun W (hW : Below UX.heap.size UX W) => met_calls 13 f pa pb pc pd pe pf pg ph pi doc la3 ln3 lc3 fa3 fn3 fc3 W HFW.out ((parse_fok 11).1 11 v f HNV.out HFP.out) (GX.out.below hW).aw (Knd.below HFX.out hW) (Knd.below HD.out hW))
      have HMM := Ap.of (fun W (hW : Below UX.heap.size UX W) => meets_doc doc la3 ln3 lc3 fa3 fn3 fc3 4 HFW.out 3 v la ln lc fa fn fc W (by decide) HDV.out (KV_le (by decide) _ _ _ _ (Knd.below HD.out hW)) (Knd.below HVX.out hW))
      have eM : matchD 11 13 f doc = meetD 11 doc 3 v := meet_doc 11 doc 3 11 12 v f (by decide) HDV.out HFP.out
      rw [eM] at HMF
      clear eM
      generalize meetD 11 doc 3 v = q at *
      have hks : ∀ W, Below UX.heap.size UX W → (Below UX.heap.size UX W ∧ W.cell? ⟨g11, 0, none⟩ = some (.int .i64 f.op) ∧ W.cell? ⟨g11, 1, none⟩ = some (.string f.path) ∧ W.cell? ⟨g11, 2, none⟩ = some (.int .i64 f.val.kind) ∧ W.cell? ⟨g11, 3, none⟩ = some (.int .i64 f.val.int) ∧ W.cell? ⟨g11, 4, none⟩ = some (.string f.val.text) ∧ W.cell? ⟨g11, 5, none⟩ = some (.slice pa pb pc) ∧ W.cell? ⟨g11, 6, none⟩ = some (.slice pd pe pf) ∧ W.cell? ⟨g11, 7, none⟩ = some (.slice pg ph pi) ∧ W.cell? ⟨g7, 0, none⟩ = some (.int .i64 v.kind) ∧ W.cell? ⟨g7, 1, none⟩ = some (.int .i64 v.int) ∧ W.cell? ⟨g7, 2, none⟩ = some (.string v.text) ∧ W.cell? ⟨g7, 3, none⟩ = some (.slice la ln lc) ∧ W.cell? ⟨g7, 4, none⟩ = some (.slice fa fn fc) ∧ W.cell? ⟨g20, 0, none⟩ = some (.int .i64 doc.kind) ∧ W.cell? ⟨g20, 1, none⟩ = some (.int .i64 doc.int) ∧ W.cell? ⟨g20, 2, none⟩ = some (.string doc.text) ∧ W.cell? ⟨g20, 3, none⟩ = some (.slice la3 ln3 lc3) ∧ W.cell? ⟨g20, 4, none⟩ = some (.slice fa3 fn3 fc3)) := fun W ho => by
        have e1 := blk_cells (blk_bel BFX.out ho)
        have e2 := blk_cells (blk_bel BVX.out ho)
        have e3 := blk_cells (blk_bel BD.out ho)
        exact ⟨ho, e1 0, e1 1, e1 2, e1 3, e1 4, e1 5, e1 6, e1 7, e2 0, e2 1, e2 2, e2 3, e2 4, e3 0, e3 1, e3 2, e3 3, e3 4⟩
      have KS := Ap.of hks
      clear hks
      go_region_held3 (fun W => Below UX.heap.size UX W ∧ W.cell? ⟨g11, 0, none⟩ = some (.int .i64 f.op) ∧ W.cell? ⟨g11, 1, none⟩ = some (.string f.path) ∧ W.cell? ⟨g11, 2, none⟩ = some (.int .i64 f.val.kind) ∧ W.cell? ⟨g11, 3, none⟩ = some (.int .i64 f.val.int) ∧ W.cell? ⟨g11, 4, none⟩ = some (.string f.val.text) ∧ W.cell? ⟨g11, 5, none⟩ = some (.slice pa pb pc) ∧ W.cell? ⟨g11, 6, none⟩ = some (.slice pd pe pf) ∧ W.cell? ⟨g11, 7, none⟩ = some (.slice pg ph pi) ∧ W.cell? ⟨g7, 0, none⟩ = some (.int .i64 v.kind) ∧ W.cell? ⟨g7, 1, none⟩ = some (.int .i64 v.int) ∧ W.cell? ⟨g7, 2, none⟩ = some (.string v.text) ∧ W.cell? ⟨g7, 3, none⟩ = some (.slice la ln lc) ∧ W.cell? ⟨g7, 4, none⟩ = some (.slice fa fn fc) ∧ W.cell? ⟨g20, 0, none⟩ = some (.int .i64 doc.kind) ∧ W.cell? ⟨g20, 1, none⟩ = some (.int .i64 doc.int) ∧ W.cell? ⟨g20, 2, none⟩ = some (.string doc.text) ∧ W.cell? ⟨g20, 3, none⟩ = some (.slice la3 ln3 lc3) ∧ W.cell? ⟨g20, 4, none⟩ = some (.slice fa3 fn3 fc3))
        (first
          | with_reducible assumption
          | (with_reducible (refine KS.out _ ?_; exact Below.refl _ _))
          | (with_reducible (refine KS.out _ ?_; apply Below.drew; exact Below.refl _ _))
          | (with_reducible (refine KS.out _ ?_; apply bel_stepB _ _ hb3; exact And.left (by assumption); exact (Below.size (And.left (by assumption))))))
        (first
          | (go_at_call 25; (with_reducible refine (HMF.out _ (And.left (by assumption))).mono ?_); rintro e w9 ⟨rfl, hb3⟩)
          | (go_at_call 31; (with_reducible refine (HMM.out _ (And.left (by assumption))).mono ?_); rintro e w9 ⟨rfl, hb3⟩))
      all_goals
        have HBL := Ap.of (show Below UX.heap.size UX w9 from And.left (by assumption))
        have HBE := Ap.of (bel_step HBX.out HBL.out)
        cases q
        all_goals
          go_wp2_with fail
          go_ret
          exact ⟨rfl, HBE.out⟩
    · rw [HFP.out] at he
      cases he
  · have HCP := Ap.of hc
    clear hc hz hE
    go_wp2_with fail
    refine HWC.out.mono ?_
    rintro e w5 ⟨r, rfl, hd2, hb5⟩
    rcases hd2 with ⟨_, _, ho⟩ | ⟨hr0, he⟩
    · rw [HCP.out] at ho
      cases ho
    · have tc : (r == 0) = false := by simpa using hr0
      have HB5 := Ap.of (bel_step HB4.out hb5)
      clear he hb5
      go_wp2_with fail
      go_ret
      exact ⟨rfl, HB5.out⟩
end Go.Proofs.YtlomieopppndeaaGreatDoor
