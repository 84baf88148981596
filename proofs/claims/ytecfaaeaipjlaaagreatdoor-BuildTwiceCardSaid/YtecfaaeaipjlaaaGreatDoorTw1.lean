/- What is no index, or is there already, is not begun. -/
import Derived.Test.YtecfaaeaipjlaaaGreatDoorAwk
namespace Go.Proofs.YtecfaaeaipjlaaaGreatDoor
open Go.RowKit
attribute [local go_sem] max2_int min2_int

/-- A call that tells an error of a code, and leaves all as it was. -/
def Refused (c : Int) (w : World) (e : Ending) (w' : World) : Prop := ∃ d g, e = .returned (.iface 129 (.pointer (some ⟨g, 0, none⟩))) ∧ ErrAt w' (d + 1) c (.iface 129 (.pointer (some ⟨g, 0, none⟩))) ∧ Below w.heap.size w w'
theorem named_at {w : World} {A : Option Addr} {k m : Nat} {nm : ByteArray} (h : One w (.slice A 1 k) m) (hm : NameAt w m nm) : Calls Tryz.prog 38 #[.slice A 1 k, .string nm] w fun e w' => e = .returned (.int .i64 0) ∧ Below w.heap.size w w' := by
  obtain ⟨g', k', he, _, _, _, hr⟩ := h.row
  simp only [Value.slice.injEq] at he
  obtain ⟨rfl, _, rfl⟩ := he
  exact (named_calls nm _ 1 k [m] (fun _ => nm) w hr (fun x hx => by rw [List.mem_singleton] at hx; rw [hx]; exact hm)).mono (fun e w' ⟨r, he, hr, hb⟩ => ⟨by rw [he, named_one hr rfl], hb⟩)
theorem errAt_setB {w : World} {g i : Nat} {u : Value} {cb : Array Value} (hg : w.heap[g]? = some (.cells cb 33 (0, 0))) : ∀ {d : Nat} {c : Int} {err : Value}, ErrAt w d c err → ErrAt (w.setCell ⟨g, i, none⟩ u) d c err
  | 0, _, _, h => h
  | _ + 1, _, _, ⟨b, p, x, he, hb, hx⟩ => ⟨b, p, x, he, blk_setN hb (blk_neT hb hg (by decide)), errAt_setB hg hx⟩
theorem errAt_set4 {w : World} {g : Nat} {na pa : ByteArray} {ua : Bool} {ph : Int} {cb : Array Value} {d : Nat} {c : Int} {err : Value} (h : ErrAt w d c err) (hg : w.heap[g]? = some (.cells cb 33 (0, 0))) :
    ErrAt ((((w.setCell ⟨g, 0, none⟩ (.string na)).setCell ⟨g, 1, none⟩ (.string pa)).setCell ⟨g, 2, none⟩ (.bool ua)).setCell ⟨g, 3, none⟩ (.int .i64 ph)) d c err :=
  errAt_setB (blk_set (blk_set (blk_set hg _ _) _ _) _ _) (errAt_setB (blk_set (blk_set hg _ _) _ _) (errAt_setB (blk_set hg _ _) (errAt_setB hg h)))
section
variable (c h m t n q : Nat) (R B : Value) (ln : Int) (nm pt : ByteArray) (un fd : Bool) (af : Int) (w : World)
set_option maxRecDepth 100000 in
set_option maxHeartbeats 4000000 in
/-- One that is being built. -/
theorem begin_tw1 (H : Bld w c h m t n q (.slice none 0 0) B ln nm pt un fd af) (G : ParG w)
    (h1 : oddN nm = false) (h2 : nm.toList ≠ []) (h3 : nm.size ≤ 16) (h4 : pathOk pt = true) (h5 : pt.size < 4294967281) :
    Calls Tryz.prog 21 #[.pointer (some ⟨c, 0, none⟩), .agg #[.string nm, .string pt, .bool un]] w (Refused 11 w) := by
  have hb := bel_alloc w (.cells #[.string nm, .string pt, .bool un] 30)
  have B1 := Ap.of (blk_new (w := w) (k := w.heap.size) (o := .cells #[.string nm, .string pt, .bool un] 30) rfl)
  have HK := Ap.of (check_ok nm pt un _ (G.below hb) h1 h2 h3 h4 h5)
  have HB := Ap.of hb
  obtain ⟨g, k, cur, rfl, hg, hcz, hk1, hk2, hc0⟩ := H.one
  have HH := Ap.of H
  clear G H h1 h2 h3 h4 h5 hb hg hcz hk1 hk2 hc0
  unfold Refused
  go_enter Tryz.func21, Tryz.ntmps21
  go_wp2_with fail
  refine HK.out.mono ?_
  rintro e w1 ⟨rfl, hb⟩
  have BB1 := Ap.of (blk_bel B1.out hb)
  have HB1 := Ap.of (bel_step HB.out hb)
  have H1 := Ap.of (HH.out.below HB1.out)
  clear hb HK
  have HN := Ap.of (fun W (hW : Below w1.heap.size w1 W) => named_at (H1.out.below hW).one (made_name (H1.out.below hW).hm))
  have HKS := Ap.of (fun W (hW : Below w1.heap.size w1 W) => (⟨hW, blk_cells (H1.out.below hW).hc 1, blk_cells (H1.out.below hW).hc 2, blk_cells (blk_bel BB1.out hW) 0⟩ : Below w1.heap.size w1 W ∧ W.cell? ⟨c, 1, none⟩ = some (.slice none 0 0) ∧ W.cell? ⟨c, 2, none⟩ = some (.slice (some ⟨g, 0, none⟩) 1 k) ∧ W.cell? ⟨w.heap.size, 0, none⟩ = some (.string nm)))
  go_upto_region 4 with fail
  go_cut [12] (fun v12 wx => v12 = .bool true ∧ Ap (Below w1.heap.size w1 wx))
  case first =>
    have hk := HKS.out w1 (Below.refl _ _)
    go_region_held3 (fun W => Below w1.heap.size w1 W ∧ W.cell? ⟨c, 1, none⟩ = some (.slice none 0 0) ∧ W.cell? ⟨c, 2, none⟩ = some (.slice (some ⟨g, 0, none⟩) 1 k) ∧ W.cell? ⟨w.heap.size, 0, none⟩ = some (.string nm))
      (first
        | with_reducible assumption
        | (with_reducible (refine HKS.out _ ?_; exact And.left (by assumption)))
        | (with_reducible (refine HKS.out _ ?_; apply Below.drew; exact And.left (by assumption)))
        | (with_reducible (refine HKS.out _ ?_; apply bel_stepB _ _ hb3; exact And.left (by assumption); exact (Below.size (And.left (by assumption)))))
        | (with_reducible (refine HKS.out _ ?_; apply Below.alloc; exact (And.left (by assumption)); exact (Below.size (And.left (by assumption)))))
        | (with_reducible (refine HKS.out _ ?_; apply Below.drew; apply Below.alloc; exact (And.left (by assumption)); exact (Below.size (And.left (by assumption)))))
        | (with_reducible (refine HKS.out _ ?_; exact Below.refl _ _))
        | (with_reducible (refine HKS.out _ ?_; apply Below.drew; exact Below.refl _ _)))
      (first
        | (go_at_call 38; (with_reducible apply Calls.mono); (first | (with_reducible apply named_nil) | (with_reducible apply HN.out; exact And.left (by assumption))); rintro en w9 ⟨rfl, hb3⟩))
    all_goals
      go_wp2_with fail
      go_meet
      exact ⟨rfl, Ap.of (And.left (by assumption))⟩
  case rest =>
    obtain ⟨rfl, HB4⟩ := hcut
    go_wp2_with fail
    refine (new_calls 11 (by decide) _ _).mono ?_
    rintro e w5 ⟨rfl, rfl⟩
    go_wp2_with fail
    go_ret
    exact ⟨0, _, rfl, ⟨_, _, _, rfl, blk_new rfl, rfl⟩, bel_step (bel_step HB1.out HB4.out) (bel_alloc _ _)⟩
set_option maxRecDepth 100000 in
set_option maxHeartbeats 4000000 in
/-- One that is there. -/
theorem begin_tw2 (H : Rdy w c h m ln nm pt un af) (G : ParG w)
    (h1 : oddN nm = false) (h2 : nm.toList ≠ []) (h3 : nm.size ≤ 16) (h4 : pathOk pt = true) (h5 : pt.size < 4294967281) :
    Calls Tryz.prog 21 #[.pointer (some ⟨c, 0, none⟩), .agg #[.string nm, .string pt, .bool un]] w (Refused 11 w) := by
  have hb := bel_alloc w (.cells #[.string nm, .string pt, .bool un] 30)
  have B1 := Ap.of (blk_new (w := w) (k := w.heap.size) (o := .cells #[.string nm, .string pt, .bool un] 30) rfl)
  have HK := Ap.of (check_ok nm pt un _ (G.below hb) h1 h2 h3 h4 h5)
  have HB := Ap.of hb
  obtain ⟨R, g0, k0, t, q, hc, _, ho, _, _, hm⟩ := H
  obtain ⟨g, k, cur, rfl, hg⟩ := ho
  have HO := Ap.of (show One w (.slice (some ⟨g, 0, none⟩) 1 k) m from ⟨g, k, cur, rfl, hg⟩)
  have HM := Ap.of hm
  have HC := Ap.of hc
  clear G h1 h2 h3 h4 h5 hb hg hm hc
  unfold Refused
  go_enter Tryz.func21, Tryz.ntmps21
  go_wp2_with fail
  refine HK.out.mono ?_
  rintro e w1 ⟨rfl, hb⟩
  have BB1 := Ap.of (blk_bel B1.out hb)
  have HB1 := Ap.of (bel_step HB.out hb)
  clear hb HK
  have HN := Ap.of (fun W (hW : Below w1.heap.size w1 W) => named_at (HO.out.below (bel_step HB1.out hW)) (made_name (blk_bel HM.out (bel_step HB1.out hW))))
  have HKS := Ap.of (fun W (hW : Below w1.heap.size w1 W) => (⟨hW, blk_cells (blk_bel HC.out (bel_step HB1.out hW)) 1, blk_cells (blk_bel BB1.out hW) 0⟩ : Below w1.heap.size w1 W ∧ W.cell? ⟨c, 1, none⟩ = some (.slice (some ⟨g, 0, none⟩) 1 k) ∧ W.cell? ⟨w.heap.size, 0, none⟩ = some (.string nm)))
  go_upto_region 4 with fail
  go_cut [12] (fun v12 wx => v12 = .bool true ∧ Ap (Below w1.heap.size w1 wx))
  case first =>
    have hk1 := (HKS.out w1 (Below.refl _ _)).2.1
    have hk2 := (HKS.out w1 (Below.refl _ _)).2.2
    first
      | (go_region_with (go_at_call 38; refine (HN.out _ (bel_draw w1)).mono ?_; rintro en w9 ⟨rfl, hb3⟩; have HB9 := Ap.of (bel_step (bel_draw w1) hb3)))
      | fail
    all_goals
      go_wp2_with fail
      go_meet
      exact ⟨rfl, HB9⟩
  case rest =>
    obtain ⟨rfl, HB4⟩ := hcut
    go_wp2_with fail
    refine (new_calls 11 (by decide) _ _).mono ?_
    rintro e w5 ⟨rfl, rfl⟩
    go_wp2_with fail
    go_ret
    exact ⟨0, _, rfl, ⟨_, _, _, rfl, blk_new rfl, rfl⟩, bel_step (bel_step HB1.out HB4.out) (bel_alloc _ _)⟩
set_option maxRecDepth 100000 in
set_option maxHeartbeats 4000000 in
/-- What is no index. -/
theorem begin_bad (e0 : Int) (k : Nat) (HC : Calls Tryz.prog 36 #[.agg #[.string nm, .string pt, .bool un]] (w.alloc (.cells #[.string nm, .string pt, .bool un] 30)) fun e w' => ∃ g, e = .returned (.iface 129 (.pointer (some ⟨g, 0, none⟩))) ∧ ErrAt w' k e0 (.iface 129 (.pointer (some ⟨g, 0, none⟩))) ∧ Below (w.alloc (.cells #[.string nm, .string pt, .bool un] 30)).heap.size (w.alloc (.cells #[.string nm, .string pt, .bool un] 30)) w') :
    Calls Tryz.prog 21 #[.pointer (some ⟨c, 0, none⟩), .agg #[.string nm, .string pt, .bool un]] w (Refused e0 w) := by
  have HK := Ap.of HC
  have HB := Ap.of (bel_alloc w (.cells #[.string nm, .string pt, .bool un] 30))
  clear HC
  unfold Refused
  go_enter Tryz.func21, Tryz.ntmps21
  go_wp2_with fail
  refine HK.out.mono ?_
  rintro e w1 ⟨g, rfl, he, hb⟩
  have HE := Ap.of he
  have HB1 := Ap.of (bel_step HB.out hb)
  clear he hb
  go_wp2_with fail
  refine (wrap_some _ _ _).mono ?_
  rintro e w3 ⟨rfl, rfl⟩
  go_wp2_with fail
  go_ret
  exact ⟨_, _, rfl, ⟨_, _, _, rfl, blk_new rfl, HE.out.below (bel_alloc _ _)⟩, bel_step HB1.out (bel_alloc _ _)⟩
/-- What Start tells where an index is refused. -/
def RefS (e0 : Int) (w : World) (e : Ending) (w' : World) : Prop := ∃ d g, e = .returned (.tuple #[.agg #[.string ⟨#[]⟩, .string ⟨#[]⟩, .bool false, .int .i64 0], .iface 129 (.pointer (some ⟨g, 0, none⟩))]) ∧ ErrAt w' (d + 1) e0 (.iface 129 (.pointer (some ⟨g, 0, none⟩))) ∧ Below w.heap.size w w'
set_option maxRecDepth 100000 in
set_option maxHeartbeats 4000000 in
theorem start_bad (e0 : Int) (HC : ∀ W, Below w.heap.size w W → Calls Tryz.prog 21 #[.pointer (some ⟨c, 0, none⟩), .agg #[.string nm, .string pt, .bool un]] W (Refused e0 W)) :
    Calls Tryz.prog 10 #[.pointer (some ⟨c, 0, none⟩), .agg #[.string nm, .string pt, .bool un]] w (RefS e0 w) := by
  have hb2 := bel_step (bel_alloc w (.cells #[.string nm, .string pt, .bool un] 30)) (bel_alloc _ (.cells #[.string ⟨#[]⟩, .string ⟨#[]⟩, .bool false, .int .i64 0] 33))
  have HBg := Ap.of (HC _ hb2)
  have B2 := Ap.of (blk_new (w := w.alloc (.cells #[.string nm, .string pt, .bool un] 30)) (k := w.heap.size + 1) (o := .cells #[.string ⟨#[]⟩, .string ⟨#[]⟩, .bool false, .int .i64 0] 33) (by simp))
  have HB2 := Ap.of hb2
  clear hb2 HC
  unfold RefS
  go_enter Tryz.func10, Tryz.ntmps10
  go_wp2_with fail
  refine HBg.out.mono ?_
  rintro e w3 ⟨d, g, rfl, he, hb⟩
  have b2 := blk_bel B2.out hb
  have HE := Ap.of (errAt_set4 (na := ⟨#[]⟩) (pa := ⟨#[]⟩) (ua := false) (ph := 0) he b2)
  have HB3 := Ap.of (bel_step HB2.out hb)
  have O4 := Ap.of ((only4 (nm := ⟨#[]⟩) (pt := ⟨#[]⟩) (un := false) (ph := 0) (Only.of_below (bel_step HB2.out hb) (fun _ => False)) (Below.refl _ w3) (Nat.le_succ w.heap.size)).below (Nat.le_refl _) (fun _ h => h.elim))
  have D4 := Ap.of (blk_cells (blk4 ⟨#[]⟩ ⟨#[]⟩ false 0 b2))
  have c2 := blk_cells b2
  have f2 := blk_free b2
  have l2 := blk_lt b2
  clear b2 hb he
  go_wp2_with fail
  exact bodyPost_ret (v := .tuple #[.agg #[.string ⟨#[]⟩, .string ⟨#[]⟩, .bool false, .int .i64 0], .iface 129 (.pointer (some ⟨g, 0, none⟩))]) (by simp [results, Tryz.results10, go_sem, D4.out]) rfl ⟨d, g, rfl, HE.out, O4.out⟩
end
end Go.Proofs.YtecfaaeaipjlaaaGreatDoor
