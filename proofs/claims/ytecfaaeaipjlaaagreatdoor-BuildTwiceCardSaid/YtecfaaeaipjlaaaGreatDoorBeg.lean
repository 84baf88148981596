/- An index is begun, where there is none. -/
import Derived.Test.YtecfaaeaipjlaaaGreatDoorCol6
import Derived.Test.YtecfaaeaipjlaaaGreatDoorChk
namespace Go.Proofs.YtecfaaeaipjlaaaGreatDoor
open Go.RowKit
attribute [local go_sem] max2_int min2_int

theorem named_nil (nm : ByteArray) (w : World) : Calls Tryz.prog 38 #[.slice none 0 0, .string nm] w fun e w' => e = .returned (.int .i64 (-1)) ∧ Below w.heap.size w w' :=
  (named_calls nm none 0 0 [] (fun _ => nm) w (Row.nil _ _ _) (fun _ h => by cases h)).mono (fun e w' ⟨r, he, hr, hb⟩ => ⟨by rw [he, named_none hr], hb⟩)
/-- A tree, and its node. -/
def TF (w : World) (t : Nat) : Prop := ∃ n, w.heap[t]? = some (.cells #[.pointer (some ⟨n, 0, none⟩), .int .i64 0] 152 (0, 0)) ∧ w.heap[n]? = some (.cells #[.slice none 0 0, .slice none 0 0] 150 (0, 0))
theorem TF.below {w w' : World} {t : Nat} (h : TF w t) (hb : Below w.heap.size w w') : TF w' t := by
  obtain ⟨n, h1, h2⟩ := h
  exact ⟨n, blk_bel h1 hb, blk_bel h2 hb⟩
theorem tnewP (w : World) : Calls Tryz.prog 39 #[] w fun e w' => ∃ t, e = .returned (.pointer (some ⟨t, 0, none⟩)) ∧ TF w' t ∧ Below w.heap.size w w' :=
  (tnew_calls w).mono (fun e w' ⟨he, hw⟩ => by subst hw; exact ⟨_, he, ⟨_, blk_new (by simp), blk_old (blk_new rfl)⟩, bel_step (bel_alloc _ _) (bel_alloc _ _)⟩)
theorem snewP (w : World) : Calls Tryz.prog 40 #[] w fun e w' => ∃ q, e = .returned (.pointer (some ⟨q, 0, none⟩)) ∧ w'.heap[q]? = some (.cells #[.slice none 0 0] 155 (0, 0)) ∧ Below w.heap.size w w' :=
  (snew_calls w).mono (fun e w' ⟨he, hw⟩ => by subst hw; exact ⟨_, he, blk_new rfl, bel_alloc _ _⟩)
section
variable {S : Nat → Prop} {w w1 w2 : World} {c i : Nat} {u : Value}
theorem only_drew (h : Only S w w1) : Only S w w1.drew := ⟨h.os, h.tape, h.output, h.size, h.block⟩
theorem only_bel (h : Only S w w1) (hb : Below w1.heap.size w1 w2) : Only S w w2 := h.trans (Only.of_below hb (fun _ => False)) (fun _ h => h.elim)
theorem only_grow (h : Only S w w1) (hb : Only (fun _ => False) w1 w2) : Only S w w2 := h.trans hb (fun _ h => h.elim)
theorem only_set (h : Only (fun j => j = c) w w1) : Only (fun j => j = c) w (w1.setCell ⟨c, i, none⟩ u) := h.trans (Only.setCell w1 ⟨c, i, none⟩ u) (fun _ h => .inl h)
end
/-- append(nil, x) of one pointer, as one step of a region that draws its order. -/
theorem step_one {ops : Array Oper} {o : Oper} {a : Act} {Q : Exit → Act → World → Prop} {W : World} {Kc : Act → World → Prop} {E : Prop} (hgd : o.guard = none) (s y : Operand) (gx m : Nat)
    (ho : o.op = .call { callee := .builtin .append, args := #[s, y], argTypes := #[62, 62] }) (hs : a.eval s = .slice none 0 0) (hy : a.eval y = .slice (some ⟨gx, 0, none⟩) 1 1) (hgx : W.heap[gx]? = some (.cells #[.pointer (some ⟨m, 0, none⟩)] 92 (0, 0)))
    (h : ∀ A k w', One w' (.slice A 1 k) m ∧ (∀ g, (Value.slice A 1 k).ownBlock = some g → W.heap.size ≤ g) → Only (fun _ => False) W w' → Kc (a.put o.dst (.slice A 1 k)) w') : if Region.wanted o (yielded ops a.tmps) = true then Oper.wp Tryz.prog o a W Kc Q else E := by
  obtain ⟨i0, hi, hzz⟩ := Option.map_eq_some_iff.1 Tryz.infoPB
  simp only [Prod.mk.injEq] at hzz
  refine step_append (K := KPtr) (tx := 92) (e := 92) (B := W.heap.size) (ok := fun _ => True) (okx := fun _ => True) (v := .slice none 0 0) (xs := []) (x := m) (cs := [.pointer (some ⟨m, 0, none⟩)]) hgd s y 62 i0 _ 8 ho Tryz.underlying62 hi hzz.1 hzz.2.1 hzz.2.2 rfl (Nat.succ_pos 0) hs hy (Own.nil _ _ _ _ _) hgx rfl (fun j _ => ⟨trivial, fun h => nomatch h⟩) (fun _ _ => trivial) (by simp) (by simp) (Nat.le_refl _) (fun v' w' hown honly => ?_)
  have h1 := Own.one1 hown
  have h2 := fun g hg => (hown.lt g hg).1
  obtain ⟨A, k, hv, _, _⟩ := hown.slice
  rw [show ([] ++ [m] : List Nat).length = 1 from rfl] at hv
  subst hv
  exact h A k w' ⟨h1, h2⟩ (honly.mono (fun i hi => nomatch hi))
theorem beg_fin {w8 w11 U : World} {c h t q : Nat} {A5 : Option Addr} {k5 : Nat} {ln : Int} {nm pt : ByteArray} {un : Bool} (ht : TF w8 t) (hq : w8.heap[q]? = some (.cells #[.slice none 0 0] 155 (0, 0))) (hc : w11.heap[c]? = some (.cells #[.pointer (some ⟨h, 0, none⟩), .slice none 0 0, .slice none 0 0] 64 (0, 0)))
    (hgr : Only (fun _ => False) ((w8.alloc (.cells #[.string nm, .string pt, .bool un, .pointer (some ⟨t, 0, none⟩), .pointer (some ⟨q, 0, none⟩), .int .i64 (-9223372036854775808), .bool false] 98)).alloc (.cells #[.pointer (some ⟨w8.heap.size, 0, none⟩)] 92)) w11)
    (hon : One w11 (.slice A5 1 k5) w8.heap.size ∧ (∀ g, (Value.slice A5 1 k5).ownBlock = some g → ((w8.alloc (.cells #[.string nm, .string pt, .bool un, .pointer (some ⟨t, 0, none⟩), .pointer (some ⟨q, 0, none⟩), .int .i64 (-9223372036854775808), .bool false] 98)).alloc (.cells #[.pointer (some ⟨w8.heap.size, 0, none⟩)] 92)).heap.size ≤ g)) (hU8 : U.heap.size ≤ w8.heap.size) (hh : U.heap[h]? = some (.cells #[.slice none 0 0, .int .i64 ln] 89 (0, 0))) (hcU : U.heap[c]? = some (.cells #[.pointer (some ⟨h, 0, none⟩), .slice none 0 0, .slice none 0 0] 64 (0, 0))) (hS : Only (fun j => j = c) U (w11.setCell ⟨c, 2, none⟩ (.slice A5 1 k5))) :
    ∃ m t n q B, Bld (w11.setCell ⟨c, 2, none⟩ (.slice A5 1 k5)) c h m t n q (.slice none 0 0) B ln nm pt un false (-9223372036854775808) ∧ U.heap.size ≤ m ∧ ∀ g, B.ownBlock = some g → U.heap.size ≤ g := by
  obtain ⟨n, h1, h2⟩ := ht
  obtain ⟨⟨g1, k1, cur1, e1, e2, e3⟩, hlow⟩ := hon
  have m1 := blk_only (blk_old (o' := .cells #[.pointer (some ⟨w8.heap.size, 0, none⟩)] 92) (blk_new (w := w8) (k := w8.heap.size) (o := .cells #[.string nm, .string pt, .bool un, .pointer (some ⟨t, 0, none⟩), .pointer (some ⟨q, 0, none⟩), .int .i64 (-9223372036854775808), .bool false] 98) rfl)) hgr (fun h => h)
  have t1 := blk_only (blk_old (blk_old h1)) hgr (fun h => h)
  have n1 := blk_only (blk_old (blk_old h2)) hgr (fun h => h)
  have q1 := blk_only (blk_old (blk_old hq)) hgr (fun h => h)
  refine ⟨w8.heap.size, t, n, q, .slice A5 1 k5, ⟨by simpa using blk_set hc 2 (.slice A5 1 k5), blk_only hh hS (blk_neT hh hcU (by decide)), ⟨g1, k1, cur1, e1, blk_setN e2 (blk_neT e2 hc (by decide)), e3⟩,
    blk_setN m1 (blk_neT m1 hc (by decide)), blk_setN t1 (blk_neT t1 hc (by decide)), blk_setN n1 (blk_neT n1 hc (by decide)), blk_setN q1 (blk_neT q1 hc (by decide))⟩, hU8, fun g hg => by have := hlow g hg; simp at this; omega⟩
set_option maxRecDepth 100000 in
set_option maxHeartbeats 4000000 in
theorem begin_calls (c h : Nat) (ln : Int) (nm pt : ByteArray) (un : Bool) (w : World) (hc : w.heap[c]? = some (.cells #[.pointer (some ⟨h, 0, none⟩), .slice none 0 0, .slice none 0 0] 64 (0, 0))) (hh : w.heap[h]? = some (.cells #[.slice none 0 0, .int .i64 ln] 89 (0, 0))) (G : ParG w)
    (h1 : oddN nm = false) (h2 : nm.toList ≠ []) (h3 : nm.size ≤ 16) (h4 : pathOk pt = true) (h5 : pt.size < 4294967281) :
    Calls Tryz.prog 21 #[.pointer (some ⟨c, 0, none⟩), .agg #[.string nm, .string pt, .bool un]] w fun e w' => e = .returned .nilIface ∧ (∃ m t n q B, Bld w' c h m t n q (.slice none 0 0) B ln nm pt un false (-9223372036854775808) ∧ w.heap.size ≤ m ∧ ∀ g, B.ownBlock = some g → w.heap.size ≤ g) ∧ Only (fun j => j = c) w w' := by
  have hb := bel_alloc w (.cells #[.string nm, .string pt, .bool un] 30)
  have B1 := Ap.of (blk_new (w := w) (k := w.heap.size) (o := .cells #[.string nm, .string pt, .bool un] 30) rfl)
  have HK := Ap.of (check_ok nm pt un _ (G.below hb) h1 h2 h3 h4 h5)
  have HB := Ap.of hb
  have HC := Ap.of hc
  have HH := Ap.of hh
  clear G h1 h2 h3 h4 h5 hb hc hh
  go_enter Tryz.func21, Tryz.ntmps21
  go_wp2_with fail
  refine HK.out.mono ?_
  rintro e w1 ⟨rfl, hb⟩
  have BB1 := Ap.of (blk_bel B1.out hb)
  have HB1 := Ap.of (bel_step HB.out hb)
  have C1 := Ap.of (blk_bel HC.out HB1.out)
  clear hb HK
  have HKS := Ap.of (fun W (hW : Below w1.heap.size w1 W) => (⟨hW, blk_cells (blk_bel C1.out hW) 1, blk_cells (blk_bel C1.out hW) 2, blk_cells (blk_bel BB1.out hW) 0⟩ : Below w1.heap.size w1 W ∧ W.cell? ⟨c, 1, none⟩ = some (.slice none 0 0) ∧ W.cell? ⟨c, 2, none⟩ = some (.slice none 0 0) ∧ W.cell? ⟨w.heap.size, 0, none⟩ = some (.string nm)))
  go_upto_region 4 with fail
  go_cut [12] (fun v12 wx => v12 = .bool false ∧ Ap (Below w1.heap.size w1 wx))
  case first =>
    have hk := HKS.out w1 (Below.refl _ _)
    go_region_held3 (fun W => Below w1.heap.size w1 W ∧ W.cell? ⟨c, 1, none⟩ = some (.slice none 0 0) ∧ W.cell? ⟨c, 2, none⟩ = some (.slice none 0 0) ∧ W.cell? ⟨w.heap.size, 0, none⟩ = some (.string nm))
      (first
        | with_reducible assumption
        | (with_reducible (refine HKS.out _ ?_; exact And.left (by assumption)))
        | (with_reducible (refine HKS.out _ ?_; apply Below.drew; exact And.left (by assumption)))
        | (with_reducible (refine HKS.out _ ?_; apply bel_stepB _ _ hb3; exact And.left (by assumption); exact (Below.size (And.left (by assumption)))))
        | (with_reducible (refine HKS.out _ ?_; apply Below.alloc; exact (And.left (by assumption)); exact (Below.size (And.left (by assumption)))))
        | (with_reducible (refine HKS.out _ ?_; apply Below.drew; apply Below.alloc; exact (And.left (by assumption)); exact (Below.size (And.left (by assumption)))))
        | (with_reducible (refine HKS.out _ ?_; exact Below.refl _ _))
        | (with_reducible (refine HKS.out _ ?_; apply Below.drew; exact Below.refl _ _)))
      (first
        | (go_at_call 38; (with_reducible apply Calls.mono); (with_reducible apply named_nil); rintro en w9 ⟨rfl, hb3⟩))
    all_goals
      go_wp2_with fail
      go_meet
      exact ⟨rfl, Ap.of (And.left (by assumption))⟩
  case rest =>
    obtain ⟨rfl, HB4⟩ := hcut
    have hk := HKS.out wc HB4.out
    obtain ⟨hk0, hk1, hk2, _⟩ := hk
    clear hk0
    go_upto_region 6 with fail
    go_region
    go_upto_region 8 with fail
    have hbU := HB4.out.drew
    generalize wc.drew = U at *
    have CU := Ap.of (blk_bel C1.out hbU)
    have SU := Ap.of (blk_bel BB1.out hbU)
    have cu := blk_cells CU.out
    have fu := blk_free CU.out
    have lu := blk_lt CU.out
    have su := blk_cells SU.out
    clear hk1 hk2 HKS
    go_region_law (first
        | (refine step_one rfl (.tmp 50) (.tmp 56) _ _ (by rfl) (by rfl) (by rfl) (blk_new (by simp)) ?_; intro A5 k5 w11 hon hgr; have HON := Ap.of hon; have C11 := Ap.of (blk_only (blk_old (blk_old C8.out)) hgr (fun h => h)); have c11 := blk_cells C11.out; have f11 := blk_free C11.out; have l11 := blk_lt C11.out)
        | (go_simp; go_at_call 39; (with_reducible apply Calls.mono); (with_reducible apply tnewP); rintro en w9 ⟨t, rfl, ht, hb3⟩; have HT9 := Ap.of ht; have HB9 := Ap.of (bel_step (bel_draw U) hb3); have C9 := Ap.of (blk_bel (blk_draw CU.out) hb3); have S9 := Ap.of (blk_bel (blk_draw SU.out) hb3); have c9 := blk_cells C9.out; have s9 := blk_cells S9.out; have l9 := blk_lt C9.out; have ls9 := blk_lt S9.out; go_wp2_with fail)
        | (go_simp; go_at_call 40; (with_reducible apply Calls.mono); (with_reducible apply snewP); rintro en w8 ⟨q, rfl, hq, hb3⟩; have HQ8 := Ap.of hq; have HT8 := Ap.of (HT9.out.below hb3); have HB8 := Ap.of (bel_step HB9.out hb3); have C8 := Ap.of (blk_bel C9.out hb3); have S8 := Ap.of (blk_bel S9.out hb3); have c8 := blk_cells C8.out; have s8 := blk_cells S8.out; have l8 := blk_lt C8.out; have ls8 := blk_lt S8.out; go_wp2_with fail))
    all_goals
      have HS := Ap.of (only_set (i := 2) (u := .slice A5 1 k5) (only_grow (((Only.of_below HB8.out (fun j => j = c)).alloc _).alloc _) hgr))
      have HF := Ap.of (beg_fin HT8.out HQ8.out C11.out hgr HON.out HB8.out.size (blk_bel (blk_bel HH.out HB1.out) hbU) CU.out HS.out)
      have HO := Ap.of (show Only (fun j => j = c) w (w11.setCell ⟨c, 2, none⟩ (.slice A5 1 k5)) from (Only.of_below (bel_step HB1.out hbU) (fun j => j = c)).trans HS.out (fun i hi => .inl hi))
      clear hgr hon cu fu lu su c8 s8 l8 ls8 c9 s9 l9 ls9 c11 f11 l11
      go_wp2_with fail
      go_ret
      have hsz := (bel_step HB1.out hbU).size
      obtain ⟨m, t, n, q, B, h1, h2, h3⟩ := HF.out
      exact ⟨rfl, ⟨m, t, n, q, B, h1, Nat.le_trans hsz h2, fun g hg => Nat.le_trans hsz (h3 g hg)⟩, HO.out⟩
end Go.Proofs.YtecfaaeaipjlaaaGreatDoor
