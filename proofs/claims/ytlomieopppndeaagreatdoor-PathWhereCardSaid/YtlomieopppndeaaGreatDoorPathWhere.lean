/- PathWhere's walk. -/
import Derived.Test.YtlomieopppndeaaGreatDoorPutWalk
import Derived.Test.YtlomieopppndeaaGreatDoorRowTake
namespace Go.Proofs.YtlomieopppndeaaGreatDoor
open Go.RowKit

theorem may_stop : ∀ (l : List ByteArray) (x : Val) (k : Nat) (a : Val), k < l.length → x.find (l.take k) = some a → x.find (l.take (k + 1)) = none → x.may l = decide (a.kind = 5)
  | [], _, _, _, h, _, _ => by simp at h
  | p :: r, x, 0, a, _, h1, h2 => by
    have e : x = a := by injection h1
    subst e
    have h3 : (x.step p).bind (·.find []) = none := h2
    have h4 : x.step p = none := by
      cases hs : x.step p with
      | none => rfl
      | some y => rw [hs] at h3; cases h3
    show (match x.step p with | none => decide (x.kind = 5) | some y => y.may r) = _
    rw [h4]
  | p :: r, x, k + 1, a, h, h1, h2 => by
    have h1' : (x.step p).bind (·.find (r.take k)) = some a := h1
    have h2' : (x.step p).bind (·.find (r.take (k + 1))) = none := h2
    cases hs : x.step p with
    | none => rw [hs] at h1'; cases h1'
    | some y =>
      rw [hs] at h1' h2'
      show (match x.step p with | none => decide (x.kind = 5) | some y => y.may r) = _
      rw [hs]
      exact may_stop r y k a (by simpa using h) h1' h2'
theorem may_all : ∀ (l : List ByteArray) (x a : Val), x.find l = some a → x.may l = true
  | [], _, _, _ => rfl
  | p :: r, x, a, h => by
    have h' : (x.step p).bind (·.find r) = some a := h
    cases hs : x.step p with
    | none => rw [hs] at h'; cases h'
    | some y =>
      rw [hs] at h'
      show (match x.step p with | none => decide (x.kind = 5) | some y => y.may r) = _
      rw [hs]
      exact may_all r y a h'
theorem few_zero (N : Nat) : Few N Val.zero := ⟨1, by decide, Nat.zero_le _, (fun y h => by cases h), (fun f h => by cases h)⟩

set_option maxRecDepth 100000 in
set_option maxHeartbeats 4000000 in
theorem where_calls (A0 : Option Addr) (n0 c0 : Nat) (A1 : Option Addr) (n1 c1 : Nat) (w : World) (b0 : Bs w (fun k => k < w.heap.size) A0 n0 c0) (b1 : Bs w (fun k => k < w.heap.size) A1 n1 c1) (G : StG w) :
    Calls Tryz.prog 13 #[.slice A0 n0 c0, .slice A1 n1 c1] w fun e w' => e = .returned (.bool true) ∧ Below w.heap.size w w' := by
  have GG := Ap.of G
  have B0 := Ap.of b0
  have B1 := Ap.of b1
  clear G b0 b1
  go_enter Tryz.func13, Tryz.ntmps13
  go_wp2_with fail
  refine (awake_calls w GG.out.path).mono ?_
  rintro e w1 ⟨rfl, hb⟩
  have HB1 := Ap.of hb
  have G1 := Ap.of (GG.out.below hb)
  clear hb
  go_wp2_with fail
  refine (of_calls A0 n0 c0 w1 _ (fun k hk => Nat.lt_of_lt_of_le hk HB1.out.size) G1.out.laid (B0.out.below HB1.out)).mono ?_
  rintro e w2 ⟨x, la, ln, lc, fa, fn, fc, rfl, hx, hg, hb⟩
  have HX := Ap.of hx
  have HG := Ap.of hg
  have HB2 := Ap.of (bel_step HB1.out hb)
  have G2 := Ap.of (G1.out.below hb)
  clear hb hx hg
  go_wp2_with fail
  refine (way_calls A1 n1 c1 w2 _ (fun k hk => Nat.lt_of_lt_of_le hk HB2.out.size) (B1.out.below HB2.out)).mono ?_
  rintro e w3 ⟨A, n, c, l, rfl, hl, hn4, hw, hb⟩
  have HL := Ap.of (hl.mono (ok' := fun _ => True) (fun _ _ => trivial))
  have HX3 := Ap.of ((KV 4).mono (ok' := fun _ => True) (fun _ _ => trivial) (Knd.below HX.out hb))
  have HB3 := Ap.of (bel_step HB2.out hb)
  have G3 := Ap.of (G2.out.below hb)
  have HLN := Ap.of hl.length
  have hn4' : n ≤ 4 := hn4
  have hcap := hl.cap
  clear hb hl hw HX hn4
  have hputz : ∀ W, Below w3.heap.size w3 W → Calls Tryz.prog 38 #[.agg #[.int .i64 x.kind, .int .i64 x.int, .string x.text, .slice la ln lc, .slice fa fn fc], .slice A n c, .agg #[.int .i64 0, .int .i64 0, .string ⟨#[]⟩, .slice none 0 0, .slice none 0 0]] W (PutP (3 + l.length + 1) W (fun _ => True) (x.put l Val.zero)) := fun W hW => put_all l.length 3 x Val.zero l 4 la ln lc fa fn fc none 0 0 none 0 0 A n c (fun _ => True) W rfl (Few.of_good HG.out) (by decide) (G3.out.below hW).path.fin (HL.out.below hW) (KV_le (by omega) _ _ _ _ (Knd.below HX3.out hW)) (KV_zero _ _ _)
  have HPZ := Ap.of hputz
  have hlf := fun W (hW : Below w3.heap.size w3 W) => lfind_calls 2 x la ln lc fa fn fc A n c l (fun _ => True) W (Few.of_good HG.out) (HL.out.below hW) (Knd.below HX3.out hW)
  have HLF := Ap.of hlf
  have hlk := fun (k : Nat) (hk : k ≤ n) W (hW : Below w3.heap.size w3 W) => lfind_calls 2 x la ln lc fa fn fc A k c (l.take k) (fun j => True ∧ j < w3.heap.size) W (Few.of_good HG.out) ((HL.out.bound.below hW).take hk) (Knd.below ((KV 4).bound HX3.out) hW)
  have HLK := Ap.of hlk
  have bx3 := blk_draw (blk_old (o' := .cells #[.int .i64 x.kind, .int .i64 x.int, .string x.text, .slice la ln lc, .slice fa fn fc] 28) (blk_new (w := w3) (o := .cells #[.int .i64 x.kind, .int .i64 x.int, .string x.text, .slice la ln lc, .slice fa fn fc] 28) rfl))
  have ba3 := blk_draw (blk_new (w := w3.alloc (.cells #[.int .i64 x.kind, .int .i64 x.int, .string x.text, .slice la ln lc, .slice fa fn fc] 28)) (k := w3.heap.size + 1) (o := .cells #[.int .i64 x.kind, .int .i64 x.int, .string x.text, .slice la ln lc, .slice fa fn fc] 28) (by simp))
  have hb34 := Below.drew (bel_step (bel_alloc w3 (.cells #[.int .i64 x.kind, .int .i64 x.int, .string x.text, .slice la ln lc, .slice fa fn fc] 28)) (bel_alloc _ (.cells #[.int .i64 x.kind, .int .i64 x.int, .string x.text, .slice la ln lc, .slice fa fn fc] 28)))
  have hs4 : (((w3.alloc (.cells #[.int .i64 x.kind, .int .i64 x.int, .string x.text, .slice la ln lc, .slice fa fn fc] 28)).alloc (.cells #[.int .i64 x.kind, .int .i64 x.int, .string x.text, .slice la ln lc, .slice fa fn fc] 28)).drew).heap.size = w3.heap.size + 2 := by simp
  clear hputz hlf hlk
  go_wp2_with fail
  go_region
  go_wp2_with fail
  generalize ((w3.alloc (.cells #[.int .i64 x.kind, .int .i64 x.int, .string x.text, .slice la ln lc, .slice fa fn fc] 28)).alloc (.cells #[.int .i64 x.kind, .int .i64 x.int, .string x.text, .slice la ln lc, .slice fa fn fc] 28)).drew = W4 at *
  have HBX := Ap.of bx3
  have HBA := Ap.of ba3
  have HB34 := Ap.of hb34
  have HS4 := Ap.of hs4
  clear bx3 ba3 hb34 hs4
  go_loopw [7, 29] (fun v7 vi wr => v7 = .bool true ∧ ∃ (k : Nat) (a : Val) (l1 : Option Addr) (m1 c2 : Nat) (g1 : Option Addr) (f1 h1 : Nat), k ≤ n ∧ vi = .int .i64 k ∧ Ap (x.find (l.take k) = some a) ∧ Ap (wr.heap[w3.heap.size + 1]? = some (.cells #[.int .i64 a.kind, .int .i64 a.int, .string a.text, .slice l1 m1 c2, .slice g1 f1 h1] 28 (0, 0))) ∧ Ap (Only (fun j => j = w3.heap.size + 1) W4 wr)) (fun _ vi _ => n - (intOf vi).toNat)
  case atStart => exact ⟨rfl, 0, x, la, ln, lc, fa, fn, fc, Nat.zero_le _, rfl, Ap.of rfl, HBA, Ap.of (Only.refl _ _)⟩
  case' round =>
    obtain ⟨rfl, k, a, l1, m1, c2, g1, f1, h1, hk, rfl, HFA, HBK, HON⟩ := hrel
    have hb3r : Below w3.heap.size w3 wr := bel_only HB34.out HB34.out.size HON.out (fun j he => by omega)
    have bxr := blk_only HBX.out HON.out (fun e => by omega)
    have HB3R := Ap.of hb3r
    have HBXR := Ap.of bxr
    have L1 := Ap.of (blk_lt HBK.out)
    clear hb3r bxr
    by_cases hlt : k < n
    case' pos =>
      have hto := strs_to HL.out (show k + 1 ≤ n by omega) ((k : Int) + 1) (by omega)
      have hki : (k : Int) < (n : Int) := by omega
      have hwr : IntKind.i64.wrap ((k : Int) + 1) = (k : Int) + 1 := by rw [IntKind.wrap_i64]; omega
      have HLT := Ap.of hlt
      have hks : ∀ W, Below wr.heap.size wr W → (Below wr.heap.size wr W ∧ W.cell? ⟨w3.heap.size, 0, none⟩ = some (.int .i64 x.kind) ∧ W.cell? ⟨w3.heap.size, 1, none⟩ = some (.int .i64 x.int) ∧ W.cell? ⟨w3.heap.size, 2, none⟩ = some (.string x.text) ∧ W.cell? ⟨w3.heap.size, 3, none⟩ = some (.slice la ln lc) ∧ W.cell? ⟨w3.heap.size, 4, none⟩ = some (.slice fa fn fc)) := fun W ho => by
        have e1 := blk_cells (blk_bel HBXR.out ho)
        exact ⟨ho, e1 0, e1 1, e1 2, e1 3, e1 4⟩
      have KS := Ap.of hks
      have HOB := Ap.of (show ∀ W, Below wr.heap.size wr W → Below w3.heap.size w3 W from fun W h => bel_stepB HB3R.out HB3R.out.size h)
      have HLC := Ap.of (HLK.out (k + 1) (by omega))
      generalize hon : x.find (l.take (k + 1)) = o1 at *
      have HO1 := Ap.of hon
      clear hks hlt hon
      go_wp2_with fail
      go_region_held3 (fun W => Below wr.heap.size wr W ∧ W.cell? ⟨w3.heap.size, 0, none⟩ = some (.int .i64 x.kind) ∧ W.cell? ⟨w3.heap.size, 1, none⟩ = some (.int .i64 x.int) ∧ W.cell? ⟨w3.heap.size, 2, none⟩ = some (.string x.text) ∧ W.cell? ⟨w3.heap.size, 3, none⟩ = some (.slice la ln lc) ∧ W.cell? ⟨w3.heap.size, 4, none⟩ = some (.slice fa fn fc))
        (first
      | with_reducible assumption
      | (with_reducible (refine KS.out _ ?_; apply Below.drew; exact Below.refl _ _))
      | (with_reducible (refine KS.out _ ?_; apply Below.drew; apply Below.alloc; exact Below.refl _ _; exact Nat.le_refl _))
      | (with_reducible (refine KS.out _ ?_; apply bel_stepB _ _ hb3; exact And.left (by assumption); exact (Below.size (And.left (by assumption)))))
      | (with_reducible (refine KS.out _ ?_; apply Below.alloc; exact (And.left (by assumption)); exact (Below.size (And.left (by assumption)))))
      | (with_reducible (refine KS.out _ ?_; apply bel_after; assumption))
      | (with_reducible (refine KS.out _ ?_; apply bel_set5; exact (And.left (by assumption)))))
        (first
          | (go_at_call 19; refine (HLC.out _ (HOB.out _ (And.left (by assumption)))).mono ?_; rintro e w5 ⟨u, l7, m7, c7, g7, f7, h7, rfl, hu, hr7, hb3⟩; have HU := Ap.of hu; have HR7 := Ap.of hr7; clear hu hr7; (first | (have c8 := blk_cells (blk_bel (blk_draw (blk_new (w := wr) (k := wr.heap.size) (o := .cells #[.int .i64 0, .int .i64 0, .string ⟨#[]⟩, .slice none 0 0, .slice none 0 0] 28) rfl)) hb3); have f8 := blk_free (blk_bel (blk_draw (blk_new (w := wr) (k := wr.heap.size) (o := .cells #[.int .i64 0, .int .i64 0, .string ⟨#[]⟩, .slice none 0 0, .slice none 0 0] 28) rfl)) hb3); have l8 := blk_lt (blk_bel (blk_draw (blk_new (w := wr) (k := wr.heap.size) (o := .cells #[.int .i64 0, .int .i64 0, .string ⟨#[]⟩, .slice none 0 0, .slice none 0 0] 28) rfl)) hb3)) | skip)))
      all_goals (first
        | (have hb8 := blk_set5 (blk_bel (blk_draw (blk_new (w := wr) (k := wr.heap.size) (o := .cells #[.int .i64 0, .int .i64 0, .string ⟨#[]⟩, .slice none 0 0, .slice none 0 0] 28) rfl)) hb3) (.int .i64 u.kind) (.int .i64 u.int) (.string u.text) (.slice l7 m7 c7) (.slice g7 f7 h7)
           have hB8 := bel_set5 (bel_stepB ((Below.alloc (Below.refl _ wr) (Nat.le_refl _) (.cells #[.int .i64 0, .int .i64 0, .string ⟨#[]⟩, .slice none 0 0, .slice none 0 0] 28)).drew) (by simp) hb3) (.int .i64 u.kind) (.int .i64 u.int) (.string u.text) (.slice l7 m7 c7) (.slice g7 f7 h7)
           clear c8 f8 l8
           generalize (((((w5.setCell ⟨wr.heap.size, 0, none⟩ (.int .i64 u.kind)).setCell ⟨wr.heap.size, 1, none⟩ (.int .i64 u.int)).setCell ⟨wr.heap.size, 2, none⟩ (.string u.text)).setCell ⟨wr.heap.size, 3, none⟩ (.slice l7 m7 c7)).setCell ⟨wr.heap.size, 4, none⟩ (.slice g7 f7 h7)) = W9 at hb8 hB8 ⊢
           obtain ⟨n8, hn8, he8⟩ : ∃ n, wr.heap.size ≤ n ∧ n = wr.heap.size := ⟨_, Nat.le_refl _, rfl⟩
           rw [← he8] at hb8 ⊢
           clear he8)
        | (have hb8 := blk_new (w := w5) (k := w5.heap.size) (o := .cells #[.int .i64 u.kind, .int .i64 u.int, .string u.text, .slice l7 m7 c7, .slice g7 f7 h7] 28) rfl
           have hB8 := bel_after hb3 (.cells #[.int .i64 u.kind, .int .i64 u.int, .string u.text, .slice l7 m7 c7, .slice g7 f7 h7] 28)
           generalize w5.alloc (.cells #[.int .i64 u.kind, .int .i64 u.int, .string u.text, .slice l7 m7 c7, .slice g7 f7 h7] 28) = W9 at hb8 hB8 ⊢
           obtain ⟨n8, hn8, he8⟩ : ∃ n, wr.heap.size ≤ n ∧ n = w5.heap.size := ⟨_, hb3.size, rfl⟩
           rw [← he8] at hb8 ⊢
           clear he8))
      all_goals (
        have ba9 := blk_bel HBK.out hB8
        have HBA9 := Ap.of ba9
        have HBX9 := Ap.of (blk_bel HBXR.out hB8)
        have HB39 := Ap.of (HOB.out _ hB8)
        have HB8 := Ap.of hB8
        have HBU := Ap.of hb8
        have HN8 := Ap.of hn8
        have da := blk_cells ba9
        have fa9 := blk_free ba9
        have lda := blk_lt ba9
        have du := blk_cells hb8
        have ldu := blk_lt hb8
        clear ba9 hb8 hB8 hn8 hb3)
      all_goals (
        cases hs : o1.isSome
        case' true =>
          go_wp2_with fail
          go_roundw
          case rel =>
            have hs9 := only5 W9 (w3.heap.size + 1) (.int .i64 u.kind) (.int .i64 u.int) (.string u.text) (.slice l7 m7 c7) (.slice g7 f7 h7)
            obtain ⟨u', hu'⟩ := Option.isSome_iff_exists.1 hs
            have huu : u = u' := by rw [HU.out, hu']; rfl
            refine ⟨rfl, k + 1, u, l7, m7, c7, g7, f7, h7, by have := HLT.out; omega, by go_num, Ap.of (by rw [HO1.out, hu', huu]), Ap.of (blk_set5 HBA9.out _ _ _ _ _), Ap.of ((HON.out.bel HB8.out).trans hs9 (fun _ h => .inl h))⟩
          case measure => have := HLT.out; simp [intOf]; omega
        case' false =>
          have dx := blk_cells HBX9.out
          have ldx := blk_lt HBX9.out
          have ho1 : o1 = none := by
            cases o1 with
            | none => rfl
            | some v => cases hs
          have hmay := may_stop l x k a (by rw [HLN.out]; exact HLT.out) HFA.out (by rw [HO1.out, ho1])
          have HM := Ap.of (show (a.kind == 5) = x.may l by rw [hmay]; rfl)
          clear ho1 hmay
          clear du ldu fa9)
    case' neg =>
      obtain rfl : n = k := by omega
      have HM := Ap.of (show true = x.may l from (may_all l x a (by rw [← HFA.out, ← HLN.out, List.take_length])).symm)
      have dx := blk_cells HBXR.out
      have ldx := blk_lt HBXR.out
      have HBX9 := HBXR
      have HB39 := HB3R
      clear hlt
  all_goals (
    go_wp2_with fail
    refine (HPZ.out _ HB39.out).mono ?_
    generalize hpz : x.put l Val.zero = oz at *
    have HMO := Ap.of (show oz.isSome = x.may l by rw [← hpz]; exact put_may l x Val.zero)
    have HPZ0 := Ap.of hpz
    clear hpz HPZ
    rintro e w10 (⟨y, rfl, l5, m5, c5, g5, f5, h5, rfl, hr, hb⟩ | ⟨rfl, g, m, rfl, hE, hb⟩)
    · have hmb : x.may l = true := HMO.out.symm
      try (have hmb2 : (a.kind == 5) = true := HM.out.trans hmb)
      have HFY := Ap.of (show Few 5 y from few_put l (N := 4) (Few.of_good HG.out) (few_zero 5) HPZ0.out)
      have HR := Ap.of ((KV (3 + l.length + 1)).mono (ok' := fun _ => True) (fun _ _ => trivial) hr)
      have bx10 := blk_bel HBX9.out hb
      have HBX10 := Ap.of bx10
      have HB310 := Ap.of (bel_step HB39.out hb)
      have ex := blk_cells bx10
      have lex := blk_lt bx10
      clear hmb hr hb bx10 dx ldx HBX9 HB39
      try clear da lda
      go_wp2_with fail
      refine (HLF.out _ (bel_step HB310.out (bel_alloc _ _))).mono ?_
      generalize hof : x.find l = of at *
      have HOF := Ap.of hof
      rintro e w11 ⟨u, l6, m6, c6, g6, f6, h6, rfl, hu, hr6, hb⟩
      have HU := Ap.of hu
      have HR6 := Ap.of hr6
      have HB1011 := Ap.of (bel_step (bel_alloc w10 (.cells #[.int .i64 y.kind, .int .i64 y.int, .string y.text, .slice l5 m5 c5, .slice g5 f5 h5] 28)) hb)
      have by11 := blk_bel (blk_new (w := w10) (k := w10.heap.size) (o := .cells #[.int .i64 y.kind, .int .i64 y.int, .string y.text, .slice l5 m5 c5, .slice g5 f5 h5] 28) rfl) hb
      have bx11 := blk_bel HBX10.out HB1011.out
      have HBX11 := Ap.of bx11
      have HBY11 := Ap.of by11
      have HB311 := Ap.of (bel_step HB310.out HB1011.out)
      have fx := blk_cells bx11
      have lfx := blk_lt bx11
      clear hof hu hr6 hb by11 bx11 ex lex
      cases h15 : of.isSome
      · go_wp2_with fail
        go_ret
        exact ⟨rfl, bel_step (bel_step HB3.out HB311.out) (bel_alloc _ _)⟩
      · have hfu : x.find l = some u := by
          obtain ⟨u', hu'⟩ := Option.isSome_iff_exists.1 h15
          rw [HOF.out, HU.out, hu']; rfl
        have hp1 := put_all l.length 3 x u l 4 la ln lc fa fn fc l6 m6 c6 g6 f6 h6 A n c (fun _ => True) (w11.alloc (.cells #[.int .i64 u.kind, .int .i64 u.int, .string u.text, .slice l6 m6 c6, .slice g6 f6 h6] 28)) rfl (Few.of_good HG.out) (by decide) (G3.out.below (bel_step HB311.out (bel_alloc _ _))).path.fin (HL.out.below (bel_step HB311.out (bel_alloc _ _)))
          (KV_le (by omega) _ _ _ _ (Knd.below HX3.out (bel_step HB311.out (bel_alloc _ _)))) (Knd.below HR6.out (bel_alloc _ _))
        rw [put_same l x u hfu] at hp1
        have hp2 := fun W (hW : Below w11.heap.size w11 W) => put_all l.length 3 y u l 5 l5 m5 c5 g5 f5 h5 l6 m6 c6 g6 f6 h6 A n c (fun _ => True) W rfl HFY.out (by decide) (G3.out.below (bel_step HB311.out hW)).path.fin (HL.out.below (bel_step HB311.out hW))
          (Knd.below HR.out (bel_step HB1011.out hW)) (Knd.below HR6.out hW)
        rw [put_put l x Val.zero u y (by rw [hfu]; rfl) HPZ0.out, put_same l x u hfu] at hp2
        have HP1 := Ap.of hp1
        have HP2 := Ap.of hp2
        clear hfu hp1 hp2
        go_wp2_with fail
        refine HP1.out.mono ?_
        rintro e w12 (⟨z2, e1, l9, m9, c9, g9, f9, h9, rfl, hr9, hb⟩ | ⟨e1, _⟩)
        case inr => cases e1
        have hz2 : x = z2 := by injection e1
        subst hz2
        have HR9 := Ap.of ((KV (3 + l.length + 1)).mono (ok' := fun _ => True) (fun _ _ => trivial) hr9)
        have HB1112 := Ap.of (bel_step (bel_alloc w11 (.cells #[.int .i64 u.kind, .int .i64 u.int, .string u.text, .slice l6 m6 c6, .slice g6 f6 h6] 28)) hb)
        have bu12 := blk_bel (blk_new (w := w11) (k := w11.heap.size) (o := .cells #[.int .i64 u.kind, .int .i64 u.int, .string u.text, .slice l6 m6 c6, .slice g6 f6 h6] 28) rfl) hb
        have by12 := blk_bel HBY11.out HB1112.out
        have bx12 := blk_bel HBX11.out HB1112.out
        have HBX12 := Ap.of bx12
        have gu := blk_cells bu12
        have lgu := blk_lt bu12
        have gy := blk_cells by12
        have lgy := blk_lt by12
        clear hr9 hb e1 bu12 by12 bx12 fx lfx
        go_wp2_with fail
        refine (HP2.out _ (bel_step HB1112.out (bel_alloc _ _))).mono ?_
        rintro e w13 (⟨z3, e1, l10, m10, c10, g10, f10, h10, rfl, hr10, hb⟩ | ⟨e1, _⟩)
        case inr => cases e1
        have hz3 : x = z3 := by injection e1
        subst hz3
        have HR10 := Ap.of ((KV (3 + l.length + 1)).mono (ok' := fun _ => True) (fun _ _ => trivial) hr10)
        have HB1213 := Ap.of (bel_step (bel_alloc w12 (.cells #[.int .i64 x.kind, .int .i64 x.int, .string x.text, .slice l9 m9 c9, .slice g9 f9 h9] 28)) hb)
        have bz13 := blk_bel (blk_new (w := w12) (k := w12.heap.size) (o := .cells #[.int .i64 x.kind, .int .i64 x.int, .string x.text, .slice l9 m9 c9, .slice g9 f9 h9] 28) rfl) hb
        have bx13 := blk_bel HBX12.out HB1213.out
        have HBX13 := Ap.of bx13
        have HB313 := Ap.of (bel_step (bel_step HB311.out HB1112.out) HB1213.out)
        have hs1 := same_calls (3 + l.length + 1) x x l9 m9 c9 g9 f9 h9 la ln lc fa fn fc (fun _ => True) (w13.alloc (.cells #[.int .i64 x.kind, .int .i64 x.int, .string x.text, .slice l10 m10 c10, .slice g10 f10 h10] 28)) (Knd.below (Knd.below HR9.out HB1213.out) (bel_alloc _ _)) (KV_le (by omega) _ _ _ _ (Knd.below HX3.out (bel_step HB313.out (bel_alloc _ _))))
        rw [cmpD_self] at hs1
        have hs2 := fun W (hW : Below w13.heap.size w13 W) => same_calls (3 + l.length + 1) x x l10 m10 c10 g10 f10 h10 la ln lc fa fn fc (fun _ => True) W (Knd.below HR10.out hW) (KV_le (by omega) _ _ _ _ (Knd.below HX3.out (bel_step HB313.out hW)))
        rw [cmpD_self] at hs2
        have HS1 := Ap.of hs1
        have HS2 := Ap.of hs2
        have hz := blk_cells bz13
        have lhz := blk_lt bz13
        have hx := blk_cells bx13
        have lhx := blk_lt bx13
        clear hs1 hs2 hr10 hb e1 bz13 bx13 gu lgu gy lgy
        go_wp2_with fail
        refine HS1.out.mono ?_
        rintro e w14 ⟨rfl, hb⟩
        have bz14 := blk_bel (blk_new (w := w13) (k := w13.heap.size) (o := .cells #[.int .i64 x.kind, .int .i64 x.int, .string x.text, .slice l10 m10 c10, .slice g10 f10 h10] 28) rfl) hb
        have bx14 := blk_bel (blk_old (o' := .cells #[.int .i64 x.kind, .int .i64 x.int, .string x.text, .slice l10 m10 c10, .slice g10 f10 h10] 28) HBX13.out) hb
        have HB1314 := Ap.of (bel_step (bel_alloc w13 (.cells #[.int .i64 x.kind, .int .i64 x.int, .string x.text, .slice l10 m10 c10, .slice g10 f10 h10] 28)) hb)
        have iz := blk_cells bz14
        have liz := blk_lt bz14
        have ix := blk_cells bx14
        have lix := blk_lt bx14
        clear hb bz14 bx14 hz lhz hx lhx
        go_wp2_with fail
        refine (HS2.out _ HB1314.out).mono ?_
        rintro e w15 ⟨rfl, hb⟩
        go_wp2_with fail
        go_ret
        exact ⟨rfl, bel_step (bel_step (bel_step HB3.out HB313.out) HB1314.out) hb⟩
    · have hmf : x.may l = false := HMO.out.symm
      first
        | exact absurd (HM.out.trans hmf) (by decide)
        | (have hmf2 : (a.kind == 5) = false := HM.out.trans hmf
           have bx10 := blk_bel HBX9.out hb
           have HB310 := Ap.of (bel_step HB39.out hb)
           have ex := blk_cells bx10
           have lex := blk_lt bx10
           have hno : (x.find l).isSome = false := by
             cases hf : x.find l with
             | none => rfl
             | some v =>
               have h1 := put_may l x v
               rw [put_same l x v hf, hmf] at h1
               cases h1
           clear hmf hE hb bx10 dx ldx da lda HBX9 HB39
           go_wp2_with fail
           refine (HLF.out _ (bel_step HB310.out (bel_alloc _ _))).mono ?_
           rintro e w11 ⟨u, l6, m6, c6, g6, f6, h6, rfl, hu, hr6, hb⟩
           have HB311 := Ap.of (bel_step (bel_step HB310.out (bel_alloc _ _)) hb)
           clear hu hr6 hb ex lex
           go_wp2_with fail
           go_ret
           exact ⟨rfl, bel_step (bel_step HB3.out HB311.out) (bel_alloc _ _)⟩))
end Go.Proofs.YtlomieopppndeaaGreatDoor
