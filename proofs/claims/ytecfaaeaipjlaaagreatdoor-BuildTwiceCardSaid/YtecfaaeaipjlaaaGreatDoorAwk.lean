/- roundelaylaw21.awake: the document's examples. -/
import Derived.Test.YtecfaaeaipjlaaaGreatDoorBeg
namespace Go.Proofs.YtecfaaeaipjlaaaGreatDoor
open Go.RowKit
attribute [local go_sem] max2_int min2_int

set_option maxRecDepth 100000 in
set_option maxHeartbeats 4000000 in
theorem start_calls (c h : Nat) (ln : Int) (nm pt : ByteArray) (un : Bool) (w : World) (hc : w.heap[c]? = some (.cells #[.pointer (some ⟨h, 0, none⟩), .slice none 0 0, .slice none 0 0] 64 (0, 0))) (hh : w.heap[h]? = some (.cells #[.slice none 0 0, .int .i64 ln] 89 (0, 0))) (G : ParG w)
    (h1 : oddN nm = false) (h2 : nm.toList ≠ []) (h3 : nm.size ≤ 16) (h4 : pathOk pt = true) (h5 : pt.size < 4294967281) :
    Calls Tryz.prog 10 #[.pointer (some ⟨c, 0, none⟩), .agg #[.string nm, .string pt, .bool un]] w fun e w' => e = StpE nm pt un 0 ∧ (∃ m t n q B, Bld w' c h m t n q (.slice none 0 0) B ln nm pt un false (-9223372036854775808) ∧ w.heap.size ≤ m ∧ ∀ g, B.ownBlock = some g → w.heap.size ≤ g) ∧ Only (fun j => j = c) w w' := by
  have hb2 := bel_step (bel_alloc w (.cells #[.string nm, .string pt, .bool un] 30)) (bel_alloc _ (.cells #[.string ⟨#[]⟩, .string ⟨#[]⟩, .bool false, .int .i64 0] 33))
  have HBg := Ap.of (begin_calls c h ln nm pt un _ (blk_bel hc hb2) (blk_bel hh hb2) (G.below hb2) h1 h2 h3 h4 h5)
  have B1 := Ap.of (blk_old (o' := .cells #[.string ⟨#[]⟩, .string ⟨#[]⟩, .bool false, .int .i64 0] 33) (blk_new (w := w) (k := w.heap.size) (o := .cells #[.string nm, .string pt, .bool un] 30) rfl))
  have B2 := Ap.of (blk_new (w := w.alloc (.cells #[.string nm, .string pt, .bool un] 30)) (k := w.heap.size + 1) (o := .cells #[.string ⟨#[]⟩, .string ⟨#[]⟩, .bool false, .int .i64 0] 33) (by simp))
  have HB2 := Ap.of hb2
  have HC := Ap.of (blk_bel hc hb2)
  clear hb2 hc hh G h1 h2 h3 h4 h5
  unfold StpE
  go_enter Tryz.func10, Tryz.ntmps10
  go_wp2_with fail
  refine HBg.out.mono ?_
  rintro e w3 ⟨rfl, ⟨m, t, n, q, B, hB, hm1, hB1⟩, hO⟩
  have H3 := Ap.of hB
  have HM := Ap.of (show w.heap.size ≤ m ∧ ∀ g, B.ownBlock = some g → w.heap.size ≤ g from ⟨by have := HB2.out.size; omega, fun g hg => by have := HB2.out.size; have := hB1 g hg; omega⟩)
  have b1 := blk_only B1.out hO (blk_neT B1.out HC.out (by decide))
  have b2 := blk_only B2.out hO (blk_neT B2.out HC.out (by decide))
  have O3 := Ap.of (show Only (fun j => j = c) w w3 from (Only.of_below HB2.out (fun j => j = c)).trans hO (fun i hi => .inl hi))
  have H4 := Ap.of (bld4 (nm := nm) (pt := pt) (un := un) (ph := 0) H3.out b2)
  have O4 := Ap.of (only4 (nm := nm) (pt := pt) (un := un) (ph := 0) O3.out (Below.refl _ w3) (Nat.le_succ w.heap.size))
  have D4 := Ap.of (blk_cells (blk4 nm pt un 0 b2))
  have c1 := blk_cells b1
  have c2 := blk_cells b2
  have f2 := blk_free b2
  have l2 := blk_lt b2
  clear b1 b2 hB hO hm1 hB1
  go_wp2_with fail
  exact bodyPost_ret (v := .tuple #[.agg #[.string nm, .string pt, .bool un, .int .i64 0], .nilIface]) (by simp [results, Tryz.results10, go_sem, D4.out]) rfl ⟨rfl, ⟨m, t, n, q, B, H4.out, HM.out⟩, O4.out⟩
set_option maxRecDepth 100000 in
set_option maxHeartbeats 4000000 in
theorem mode_calls (p v : Int) (w : World) (h : v = if p = 0 ∨ p = 1 then 2 else if p = 2 then 3 else if p = 3 then 4 else 0) : Calls Tryz.prog 7 #[.int .i64 p] w fun e w' => e = .returned (.int .i64 v) ∧ w' = w := by
  subst h
  have hp : p = 0 ∨ p = 1 ∨ p = 2 ∨ p = 3 ∨ ((p == 0) = false ∧ (p == 1) = false ∧ (p == 2) = false ∧ (p == 3) = false) := by simp; omega
  rcases hp with rfl | rfl | rfl | rfl | ⟨h0, h1, h2, h3⟩
  case inr.inr.inr.inr =>
    have e0 : (if p = 0 ∨ p = 1 then (2 : Int) else if p = 2 then 3 else if p = 3 then 4 else 0) = 0 := by
      simp at h0 h1 h2 h3
      simp [h0, h1, h2, h3]
    rw [e0]
    clear e0
    go_enter Tryz.func7, Tryz.ntmps7
    go_wp2_with fail
    go_ret
    exact ⟨rfl, rfl⟩
  all_goals
    go_enter Tryz.func7, Tryz.ntmps7
    go_wp2_with fail
    go_ret
    exact ⟨rfl, rfl⟩
/-! ### A build as one state after another -/
structure Kp (base : Nat) (w w' : World) : Prop where
  below : Below base w w'
  size : w.heap.size ≤ w'.heap.size
  keep : ∀ (b : Nat) (cb : Array Value) (tb : TypeId) (fb : Nat × Nat), w.heap[b]? = some (.cells cb tb fb) → tb ≠ 64 → tb ≠ 98 → tb ≠ 92 → w'.heap[b]? = some (.cells cb tb fb)
section
variable {base : Nat} {w w1 w2 : World}
theorem Kp.refl (base : Nat) (w : World) : Kp base w w := ⟨Below.refl _ _, Nat.le_refl _, fun _ _ _ _ h _ _ _ => h⟩
theorem Kp.trans (h : Kp base w w1) (k : Kp base w1 w2) : Kp base w w2 := ⟨h.below.trans k.below, Nat.le_trans h.size k.size, fun b cb tb fb e h1 h2 h3 => k.keep b cb tb fb (h.keep b cb tb fb e h1 h2 h3) h1 h2 h3⟩
theorem Kp.of_below (hb : Below w.heap.size w w1) (h : base ≤ w.heap.size) : Kp base w w1 := ⟨hb.mono h, hb.size, fun _ _ _ _ e _ _ _ => blk_bel e hb⟩
theorem Kp.of_only {S : Nat → Prop} (O : Only S w w1) (hb : base ≤ w.heap.size) (hS : ∀ j, S j → base ≤ j) (hT : ∀ j, S j → ∃ cj tj fj, w.heap[j]? = some (.cells cj tj fj) ∧ (tj = 64 ∨ tj = 98 ∨ tj = 92)) : Kp base w w1 :=
  ⟨O.below hb hS, O.size, fun b cb tb fb e h1 h2 h3 => blk_only e O (fun hs => by
    obtain ⟨cj, tj, fj, he, ht⟩ := hT b hs
    rw [e] at he
    injection he with he
    injection he with _ he _
    subst he
    rcases ht with h | h | h
    · exact h1 h
    · exact h2 h
    · exact h3 h)⟩
end
def St (base k : Nat) (w : World) (c h m : Nat) (ln : Int) (nm pt : ByteArray) (un : Bool) : Prop :=
  base ≤ c ∧ base ≤ m ∧ ((k = 0 ∧ ∃ t n q B, Bld w c h m t n q (.slice none 0 0) B ln nm pt un false (-9223372036854775808) ∧ ∀ g, B.ownBlock = some g → base ≤ g) ∨
    (1 ≤ k ∧ k ≤ 3 ∧ ∃ t n q B, Bld w c h m t n q (.slice none 0 0) B ln nm pt un true (-9223372036854775808) ∧ ∀ g, B.ownBlock = some g → base ≤ g) ∨ (k = 4 ∧ Rdy w c h m ln nm pt un (-9223372036854775808)))
section
variable {base k : Nat} {w w' : World} {c h m : Nat} {ln : Int} {nm pt : ByteArray} {un : Bool}
theorem St.below (H : St base k w c h m ln nm pt un) (hb : Below w.heap.size w w') : St base k w' c h m ln nm pt un := by
  obtain ⟨h1, h2, h3⟩ := H
  refine ⟨h1, h2, ?_⟩
  rcases h3 with ⟨e, t, n, q, B, hB, hg⟩ | ⟨e, e', t, n, q, B, hB, hg⟩ | ⟨e, hR⟩
  · exact .inl ⟨e, t, n, q, B, hB.below hb, hg⟩
  · exact .inr (.inl ⟨e, e', t, n, q, B, hB.below hb, hg⟩)
  · exact .inr (.inr ⟨e, hR.below hb⟩)
theorem St.set4 (H : St base k w c h m ln nm pt un) {g : Nat} {na pa : ByteArray} {ua : Bool} {ph : Int} {cb : Array Value} (hg : w.heap[g]? = some (.cells cb 33 (0, 0))) :
    St base k ((((w.setCell ⟨g, 0, none⟩ (.string na)).setCell ⟨g, 1, none⟩ (.string pa)).setCell ⟨g, 2, none⟩ (.bool ua)).setCell ⟨g, 3, none⟩ (.int .i64 ph)) c h m ln nm pt un := by
  obtain ⟨h1, h2, h3⟩ := H
  refine ⟨h1, h2, ?_⟩
  rcases h3 with ⟨e, t, n, q, B, hB, hg'⟩ | ⟨e, e', t, n, q, B, hB, hg'⟩ | ⟨e, hR⟩
  · exact .inl ⟨e, t, n, q, B, bld4 hB hg, hg'⟩
  · exact .inr (.inl ⟨e, e', t, n, q, B, bld4 hB hg, hg'⟩)
  · exact .inr (.inr ⟨e, rdy4 hR hg⟩)
theorem kp_m {t n q : Nat} {B : Value} {fd : Bool} {af : Int} (H : Bld w c h m t n q (.slice none 0 0) B ln nm pt un fd af) (hm : base ≤ m) (hb : base ≤ w.heap.size) (O : Only (fun k => k = m) w w') : Kp base w w' :=
  Kp.of_only O hb (fun j hj => by rw [hj]; exact hm) (fun j hj => by subst hj; exact ⟨_, _, _, H.hm, .inr (.inl rfl)⟩)
theorem kp_c {t n q : Nat} {B : Value} {fd : Bool} {af : Int} (H : Bld w c h m t n q (.slice none 0 0) B ln nm pt un fd af) (hc : base ≤ c) (hg : ∀ g, B.ownBlock = some g → base ≤ g) (hb : base ≤ w.heap.size) (O : Only (fun j => j = c ∨ B.ownBlock = some j) w w') : Kp base w w' :=
  Kp.of_only O hb (fun j hj => hj.elim (fun e => by rw [e]; exact hc) (fun e => hg j e)) (fun j hj => by
    rcases hj with rfl | e
    · exact ⟨_, _, _, H.hc, .inl rfl⟩
    · obtain ⟨g, k, cur, rfl, h2, _⟩ := H.one
      simp [Value.ownBlock] at e
      subst e
      exact ⟨_, _, _, h2, .inr (.inr rfl)⟩)
theorem bstep_calls (most : Int) (hk : k < 4) (H : St base k w c h m ln nm pt un) (hb : base ≤ w.heap.size) :
    Calls Tryz.prog 11 #[.pointer (some ⟨c, 0, none⟩), .agg #[.string nm, .string pt, .bool un, .int .i64 (k : Int)], .int .i64 most] w fun e w' => e = StpE nm pt un ((k : Int) + 1) ∧ St base (k + 1) w' c h m ln nm pt un ∧ Kp base w w' := by
  obtain ⟨h1, h2, h3⟩ := H
  rcases h3 with ⟨rfl, t, n, q, B, hB, hg⟩ | ⟨e, e', t, n, q, B, hB, hg⟩ | ⟨rfl, hR⟩
  · exact (step0_calls c h m t n q B ln nm pt un false _ most w hB).mono (fun e w' ⟨he, hb', ho⟩ => ⟨he, ⟨h1, h2, .inr (.inl ⟨by decide, by decide, t, n, q, B, hb', hg⟩)⟩, kp_m hB h2 hb ho⟩)
  · rcases (show k = 1 ∨ k = 2 ∨ k = 3 by omega) with rfl | rfl | rfl
    · exact (step1_calls c h m t n q B ln nm pt un true _ most w hB).mono (fun e w' ⟨he, hb', ho⟩ => ⟨he, ⟨h1, h2, .inr (.inl ⟨by decide, by decide, t, n, q, B, hb', hg⟩)⟩, kp_m hB h2 hb ho⟩)
    · exact (step2_calls c h m t n q B ln nm pt un true _ most w hB).mono (fun e w' ⟨he, hb', ho⟩ => ⟨he, ⟨h1, h2, .inr (.inl ⟨by decide, by decide, t, n, q, B, hb', hg⟩)⟩, kp_m hB h2 hb ho⟩)
    · exact (step3_calls c h m t n q B ln nm pt un _ most w hB).mono (fun e w' ⟨he, hb', ho⟩ => ⟨he, ⟨h1, h2, .inr (.inr ⟨rfl, hb'⟩)⟩, kp_c hB h1 hg hb ho⟩)
  · omega
end
theorem awk_round {base : Nat} {wr w5 w : World} {c h m g3 : Nat} {ln : Int} (nm pt : ByteArray) (un : Bool) (k0 : Nat) (hS : St base (k0 + 1) w5 c h m ln nm pt un) (hK : Kp base wr w5) {ph : Int} (hb : w5.heap[g3]? = some (.cells #[.string nm, .string pt, .bool un, .int .i64 ph] 33 (0, 0))) (hL : Below base w wr) (hg : base ≤ g3) :
    Ap (St base (k0 + 1) (((((w5.setCell ⟨g3, 0, none⟩ (.string nm)).setCell ⟨g3, 1, none⟩ (.string pt)).setCell ⟨g3, 2, none⟩ (.bool un)).setCell ⟨g3, 3, none⟩ (.int .i64 ((k0 : Int) + 1))).alloc (.cells #[.string nm, .string pt, .bool un, .int .i64 ((k0 : Int) + 1)] 33)) c h m ln nm pt un) ∧
    Ap ((((((w5.setCell ⟨g3, 0, none⟩ (.string nm)).setCell ⟨g3, 1, none⟩ (.string pt)).setCell ⟨g3, 2, none⟩ (.bool un)).setCell ⟨g3, 3, none⟩ (.int .i64 ((k0 : Int) + 1))).alloc (.cells #[.string nm, .string pt, .bool un, .int .i64 ((k0 : Int) + 1)] 33)).heap[g3]? = some (.cells #[.string nm, .string pt, .bool un, .int .i64 ((k0 : Int) + 1)] 33 (0, 0))) ∧
    Ap (Below base w (((((w5.setCell ⟨g3, 0, none⟩ (.string nm)).setCell ⟨g3, 1, none⟩ (.string pt)).setCell ⟨g3, 2, none⟩ (.bool un)).setCell ⟨g3, 3, none⟩ (.int .i64 ((k0 : Int) + 1))).alloc (.cells #[.string nm, .string pt, .bool un, .int .i64 ((k0 : Int) + 1)] 33))) :=
  have hb4 := bel_set hg (bel_set hg (bel_set hg (bel_set hg (hL.trans hK.below) (u := .string nm) (i := 0)) (u := .string pt) (i := 1)) (u := .bool un) (i := 2)) (u := .int .i64 ((k0 : Int) + 1)) (i := 3)
  ⟨Ap.of ((hS.set4 hb).below (bel_alloc _ _)), Ap.of (blk_old (blk4 nm pt un _ hb)), Ap.of (hb4.alloc (by have := blk_lt hb; simp [World.setCell]; omega) _)⟩
theorem lawN : oddN ⟨#[105]⟩ = false ∧ pathOk ⟨#[97]⟩ = true ∧ (⟨#[105]⟩ : ByteArray).toList ≠ [] := by decide +kernel
set_option maxRecDepth 100000 in
set_option maxHeartbeats 4000000 in
theorem awake21_calls (w : World) (G : ParG w) : Calls Tryz.prog 6 #[] w fun e w' => e = .returned (.bool true) ∧ Below w.heap.size w w' := by
  have hb2 := bel_step (bel_alloc w (.cells #[.slice none 0 0, .int .i64 0] 89)) (bel_alloc _ (.cells #[.pointer (some ⟨w.heap.size, 0, none⟩), .slice none 0 0, .slice none 0 0] 64))
  have HS := Ap.of (start_calls (w.heap.size + 1) w.heap.size 0 ⟨#[105]⟩ ⟨#[97]⟩ false ((w.alloc (.cells #[.slice none 0 0, .int .i64 0] 89)).alloc (.cells #[.pointer (some ⟨w.heap.size, 0, none⟩), .slice none 0 0, .slice none 0 0] 64)) (blk_new (by simp)) (blk_old (blk_new rfl)) (G.below hb2) lawN.1 lawN.2.2 (by decide) lawN.2.1 (by decide))
  have HB2 := Ap.of hb2
  have HSZ := Ap.of (show ((w.alloc (.cells #[.slice none 0 0, .int .i64 0] 89)).alloc (.cells #[.pointer (some ⟨w.heap.size, 0, none⟩), .slice none 0 0, .slice none 0 0] 64)).heap.size = w.heap.size + 2 by simp)
  clear hb2 G
  unfold StpE at HS
  go_enter Tryz.func6, Tryz.ntmps6
  go_wp2_with fail
  refine (cnew_calls w).mono ?_
  rintro e w1 ⟨rfl, rfl⟩
  go_wp2_with fail
  refine HS.out.mono ?_
  rintro e w3 ⟨rfl, ⟨m, t, n, q, B, hB, hm, hg⟩, hO⟩
  have hb4 := bel_alloc w3 (.cells #[.string ⟨#[105]⟩, .string ⟨#[97]⟩, .bool false, .int .i64 0] 33)
  have S3 : Ap (St w.heap.size 0 _ (w.heap.size + 1) w.heap.size m 0 ⟨#[105]⟩ ⟨#[97]⟩ false) := Ap.of ((show St w.heap.size 0 w3 (w.heap.size + 1) w.heap.size m 0 ⟨#[105]⟩ ⟨#[97]⟩ false from ⟨Nat.le_succ _, by have := HSZ.out; omega, .inl ⟨rfl, t, n, q, B, hB, fun g e => by have := hg g e; have := HSZ.out; omega⟩⟩).below hb4)
  have B3 := Ap.of (blk_new (w := w3) (k := w3.heap.size) (o := .cells #[.string ⟨#[105]⟩, .string ⟨#[97]⟩, .bool false, .int .i64 0] 33) rfl)
  have L3 := Ap.of (bel_step (bel_only HB2.out HB2.out.size hO (fun j hj => by rw [hj]; exact Nat.le_succ _)) hb4)
  obtain ⟨g3, hg3⟩ : ∃ g3, g3 = w3.heap.size := ⟨_, rfl⟩
  have G3 := Ap.of (show w.heap.size ≤ g3 by have := (bel_only HB2.out HB2.out.size hO (fun j hj => by rw [hj]; exact Nat.le_succ _)).size; omega)
  rw [← hg3] at B3
  have b3 := blk_cells B3.out
  clear hB hm hg hO hb4
  go_wp2_with fail
  rw [← hg3]
  clear hg3 b3
  go_loopw [4] (fun v4 wr => ∃ k : Nat, k ≤ 4 ∧ v4 = .int .i64 k ∧ Ap (St w.heap.size k wr (w.heap.size + 1) w.heap.size m 0 ⟨#[105]⟩ ⟨#[97]⟩ false) ∧ Ap (wr.heap[g3]? = some (.cells #[.string ⟨#[105]⟩, .string ⟨#[97]⟩, .bool false, .int .i64 (k : Int)] 33 (0, 0))) ∧ Ap (Below w.heap.size w wr)) (fun v4 _ => 4 - (intOf v4).toNat)
  case atStart => exact ⟨0, Nat.zero_le _, rfl, S3, B3, L3⟩
  case round =>
    obtain ⟨k, hk, rfl, SK, BK, LK⟩ := hrel
    have bk := blk_cells BK.out
    have fk := blk_free BK.out
    have lk := blk_lt BK.out
    by_cases hlt : k < 4
    · have t1 : decide ((k : Int) < 4) = true := by simp; omega
      have t2 : decide ((k : Int) < 9) = true := by simp; omega
      have HK := Ap.of (bstep_calls 5 hlt SK.out LK.out.size)
      unfold StpE at HK
      have HLT := Ap.of hlt
      clear hlt
      go_wp2_with fail
      refine HK.out.mono ?_
      rintro e w5 ⟨rfl, hS5, hK5⟩
      have b5 := hK5.keep _ _ _ _ BK.out (by decide) (by decide) (by decide)
      have HX := Ap.of (awk_round ⟨#[105]⟩ ⟨#[97]⟩ false k hS5 hK5 b5 LK.out G3.out)
      have c5 := blk_cells b5
      have f5 := blk_free b5
      have l5 := blk_lt b5
      clear hS5 hK5 b5 bk fk lk
      go_wp2_with fail
      go_roundw
      case rel => exact ⟨k + 1, HLT.out, by go_num, HX.out.1, HX.out.2.1, HX.out.2.2⟩
      case measure => have := HLT.out; simp [intOf]; omega
    · obtain rfl : k = 4 := by omega
      clear hlt
      go_wp2_with fail
      refine (mode_calls 0 2 _ (by decide)).mono ?_
      rintro e w5 ⟨rfl, rfl⟩
      go_wp2_with fail
      refine (mode_calls 3 4 _ (by decide)).mono ?_
      rintro e w6 ⟨rfl, rfl⟩
      go_wp2_with fail
      go_ret
      exact ⟨rfl, LK.out⟩
end Go.Proofs.YtecfaaeaipjlaaaGreatDoor
