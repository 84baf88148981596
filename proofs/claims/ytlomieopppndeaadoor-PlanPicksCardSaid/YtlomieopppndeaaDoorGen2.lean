/- Values made of bytes: lists and objects. -/
import Derived.Test.YtlomieopppndeaaDoorGen
import Derived.Deep.RegionLaw
namespace Go.Proofs.YtlomieopppndeaaDoor
open Go.RowKit

theorem Tryd.infoV : (Tryd.prog.info? 29).map (fun i => (i.zero, i.size, i.bytes)) = some (some (.agg #[.int .i64 0, .int .i64 0, .string ⟨#[]⟩, .slice none 0 0, .slice none 0 0]), 5, 80) := by kernel_rfl
theorem Tryd.infoF : (Tryd.prog.info? 69).map (fun i => (i.zero, i.size, i.bytes)) = some (some (.agg #[.string ⟨#[]⟩, .int .i64 0, .int .i64 0, .string ⟨#[]⟩, .slice none 0 0, .slice none 0 0]), 6, 96) := by kernel_rfl

set_option maxRecDepth 100000 in
set_option maxHeartbeats 2000000 in
theorem made_list (D : Nat) (hD : D ≤ 100) (ih : MadeS D) (g off n cap : Nat) (c : Int) (ok : Nat → Prop) (w : World) (h0 : 0 ≤ c) (h1 : c ≤ 255) (hr : c % 6 = 4) (hL : Laid w) (hB : Bs w ok (some ⟨g, off, none⟩) (n + 1) cap) (hg : g < w.heap.size) (hcell : w.cell? ⟨g, off, none⟩ = some (.int .u8 c)) (hok : ∀ k, ok k → k < w.heap.size) :
    Calls Tryd.prog 70 #[.slice (some ⟨g, off, none⟩) (n + 1) cap, .int .i64 ((D : Int) + 1 + 1)] w (MadeP (D + 1) w ok) := by
  have hn0 : ((n : Int) + 1 == 0) = false := by simp; omega
  have hn1 := hB.1
  have hn2 := hB.2.1
  have e0 : (0 : Int) ≤ c / 6 := by omega
  have e1 : c / 6 ≤ 42 := by omega
  obtain ⟨N, hN⟩ : ∃ N : Nat, c / 6 % 4 = (N : Int) := ⟨(c / 6 % 4).toNat, by omega⟩
  have hN3 : N ≤ 3 := by omega
  obtain ⟨A', c', hrun, hB'⟩ := cut1 g off n cap hn1 hn2
  have HB' := Ap.of (hB' w ok hB)
  have IH := Ap.of ih
  have HL := Ap.of hL
  have HOK := Ap.of hok
  have t1 : (c % 6 == 1) = false := by simp; omega
  have t2 : (c % 6 == 2) = false := by simp; omega
  have t3 : (c % 6 == 3) = false := by simp; omega
  have t4 : (c % 6 == 4) = true := by simp; omega
  have t5 : decide (1 < (D : Int) + 1 + 1) = true := by simp; omega
  clear hB' hB ih hL hok hr
  obtain ⟨i0, hi, hzz⟩ := Option.map_eq_some_iff.1 Tryd.infoV
  simp only [Prod.mk.injEq] at hzz
  have HI := Ap.of (And.intro hi hzz)
  clear hi hzz
  go_enter Tryd.func70, Tryd.ntmps70
  go_wp2_with fail
  go_loopw [0, 9] (fun vb vi wr => ∃ (k : Nat) (A : Option Addr) (n c : Nat) (la : Option Addr) (lc : Nat) (xs : List Val), k ≤ N ∧ vi = .int .i64 k ∧ vb = .slice A n c ∧ Ap (Bs wr ok A n c) ∧ xs.length = k ∧ Ap (∀ x ∈ xs, GoodV (D + 1) x) ∧
    Ap (wr.heap[w.heap.size]? = some (.cells #[.int .i64 0, .int .i64 0, .string ⟨#[]⟩, .slice none 0 0, .slice none 0 0] 29 (0, 0))) ∧ Ap (wr.heap[w.heap.size + 1]? = some (.cells #[.int .i64 4, .int .i64 0, .string ⟨#[]⟩, .slice la k lc, .slice none 0 0] 29 (0, 0))) ∧
    Ap (Own (KV (D + 1)) 29 w.heap.size wr (fun j => w.heap.size + 2 ≤ j) (.slice la k lc) xs) ∧ Ap (Below w.heap.size w wr)) (fun _ vi _ => N - (intOf vi).toNat)
  case atStart =>
    refine ⟨0, A', n, c', none, 0, [], by omega, rfl, rfl, Ap.of ((HB'.out.below (bel_alloc _ _)).below (bel_alloc _ _)), rfl, Ap.of (fun x h => by simp at h), Ap.of (blk_old (blk_new rfl)), Ap.of (blk_new (by simp)), Ap.of (Own.nil _ _ _ _ _), Ap.of (bel_step (bel_alloc _ _) (bel_alloc _ _))⟩
  case round =>
    obtain ⟨k, A, n, cp, la, lc, xs, hk, rfl, rfl, B, hxl, GD, B4, B8, O, BL⟩ := hrel
    clear HB' hrun
    by_cases hlt : k < N
    · go_wp2_with fail
      refine (IH.out A n cp _ ok (fun j hj => Nat.lt_of_lt_of_le (HOK.out j hj) BL.out.size) (HL.out.only (Only.of_below (BL.out.mono (Nat.le_refl _)) (fun _ => False)) (fun _ _ hf => hf)) B.out).mono ?_
      rintro e w3 ⟨x, xa, xn, xc, ya, yn, yc, A2, n2, c2, rfl, hx, hgd, hb2, hbl⟩
      have bk4 := blk_bel B4.out hbl
      have bk8 := blk_bel B8.out hbl
      have O3 := Ap.of (O.out.below hbl)
      have BL3 := Ap.of (bel_stepB BL.out BL.out.size hbl)
      have HX := Ap.of hx
      have HG := Ap.of hgd
      have HB2 := Ap.of hb2
      have WS : Ap (w.heap.size + 2 ≤ wr.heap.size) := Ap.of (blk_lt B8.out)
      have LT := Ap.of O.out.lt
      have OB := Ap.of O.out.1
      have c8 := blk_cells bk8
      have f8 := blk_free bk8
      have h8 : w.heap.size + 1 < w3.heap.size := blk_lt bk8
      have Bk4 := Ap.of bk4
      have Bk8 := Ap.of bk8
      have HXL := Ap.of hxl
      clear B B4 B8 O hx hgd hb2 hbl bk4 bk8 hxl
      go_wp2_with (at_builtin; refine wp_append (K := KV (D + 1)) (tx := 29) (e := 29) (B := w.heap.size) (ok := fun j => w.heap.size + 2 ≤ j) (okx := fun j => wr.heap.size ≤ j) (xs := xs) (x := x) (cs := [.int .i64 x.kind, .int .i64 x.int, .string x.text, .slice xa xn xc, .slice ya yn yc]) rfl _ _ 26 i0 _ 80 rfl Tryd.underlying26 HI.out.1 HI.out.2.1 HI.out.2.2.1 HI.out.2.2.2 rfl (Nat.succ_pos 4) rfl rfl ?a1 ?a2 ?a3 ?a4 ?a5 ?a6 ?a7 ?a8 ?_)
      case a1 => exact (O3.out.below (bel_alloc _ _)).below (bel_alloc _ _)
      case a2 => exact blk_new (by simp)
      case a3 => exact Knd.below (Knd.below HX.out (bel_alloc _ _)) (bel_alloc _ _)
      case a4 => exact fun j hj => ⟨by have := WS.out; omega, fun he => by have := (LT.out j he.symm).2; omega⟩
      case a5 => intro j hj; have := h8; simp at hj; omega
      case a6 => rw [HXL.out]; omega
      case a7 => rw [HXL.out]; omega
      case a8 => have := h8; simp; omega
      intro v5 w5 hO5 honly
      obtain ⟨A5, c5, hv5, _, _⟩ := hO5.slice
      rw [show (xs ++ [x]).length = k + 1 from by simp [HXL.out]] at hv5
      subst hv5
      have hn4 : ∀ j, j < w.heap.size + 2 → ¬ ((Value.slice la k lc).ownBlock = some j) := fun j hj he => by have := OB.out j he; omega
      have b4 := blk_only (blk_old (blk_old Bk4.out)) honly (hn4 _ (by omega))
      have b8 := blk_only (blk_old (blk_old Bk8.out)) honly (hn4 _ (by omega))
      have BL5 := Ap.of (bel_only (bel_stepB (bel_stepB BL3.out (by omega) (bel_alloc _ _)) (by simp; omega) (bel_alloc _ _)) (by simp; omega) honly (fun j he => (LT.out j he).1))
      have HB5 := Ap.of (((HB2.out.below (bel_alloc _ _)).below (bel_alloc _ _)).only honly (fun j hj he => by have := HOK.out j hj; have := (LT.out j he).1; omega))
      have O5 := Ap.of hO5
      have Bk4 := Ap.of b4
      have Bk8 := Ap.of b8
      have c8 := blk_cells b8
      have f8 := blk_free b8
      clear b4 b8 hO5 honly
      go_wp2_with fail
      go_roundw
      case rel =>
        have hs := Only.setCell w5 ⟨w.heap.size + 1, 3, none⟩ (.slice A5 (k + 1) c5)
        refine ⟨k + 1, A2, n2, c2, A5, c5, xs ++ [x], by omega, by go_num, rfl, Ap.of (HB5.out.only hs (fun j hj he => by have := HOK.out j hj; simp at he; omega)), by simp [HXL.out], Ap.of ?_, Ap.of (blk_only Bk4.out hs (by simp)), Ap.of ?_, Ap.of (O5.out.only hs (fun j hj he => by simp at he; omega)), Ap.of (bel_only BL5.out BL5.out.size hs (fun j he => by simp at he; omega))⟩
        · intro y hy
          rcases List.mem_append.1 hy with hy | hy
          · exact GD.out y hy
          · rw [List.mem_singleton.1 hy]; exact HG.out
        · simpa using blk_set Bk8.out 3 (.slice A5 (k + 1) c5)
      case measure => simp [intOf]; omega
    · obtain rfl : k = N := by omega
      have c4 := blk_cells B4.out
      have f4 := blk_free B4.out
      have c8 := blk_cells B8.out
      have h8 := blk_lt B8.out
      obtain ⟨A6, c6, hv6, hrow⟩ := O.out.row
      rw [hxl] at hv6 hrow
      injection hv6 with hv6 _ hv7
      subst hv6 hv7
      have HROW := Ap.of hrow
      have HXL := Ap.of hxl
      clear hrow hxl
      go_wp2_with fail
      have hs := only5 wr w.heap.size (.int .i64 4) (.int .i64 0) (.string ⟨#[]⟩) (.slice la k lc) (.slice none 0 0)
      exact bodyPost_ret (v := .tuple #[.agg #[.int .i64 4, .int .i64 0, .string ⟨#[]⟩, .slice la k lc, .slice none 0 0], .slice A n cp]) (by simp [results, Tryd.results70, go_sem, c4]) rfl
        ⟨.mk 4 0 ⟨#[]⟩ xs [], la, k, lc, none, 0, 0, A, n, cp, rfl, ⟨la, k, lc, none, 0, 0, rfl, i64_4, i64_0, empty_small, (HROW.out.only hs (fun j hj he => by omega)).mono (fun j hj => by omega), Row.nil _ _ _⟩,
          ⟨c04, c45, i64_0, empty_word, by show xs.length ≤ 3; rw [HXL.out]; exact hN3, GD.out, by simp [Val.fields], fun p hp => by simp [Val.fields] at hp, .inr (.inr rfl), .inr rfl, .inl rfl, .inr rfl, fun h => by cases h⟩,
          B.out.only hs (fun j hj he => by have := HOK.out j hj; omega), bel_only BL.out BL.out.size hs (fun j he => by omega)⟩

theorem names_small {s : ByteArray} (h : s ∈ namesOf) : s.size ≤ 16 := by
  simp only [namesOf, List.mem_cons, List.not_mem_nil, or_false] at h
  rcases h with rfl | rfl | rfl | rfl <;> decide
set_option maxRecDepth 100000 in
set_option maxHeartbeats 4000000 in
theorem made_obj (D : Nat) (hD : D ≤ 100) (ih : MadeS D) (g off n cap : Nat) (c : Int) (ok : Nat → Prop) (w : World) (h0 : 0 ≤ c) (h1 : c ≤ 255) (hr : c % 6 = 5) (hL : Laid w) (hB : Bs w ok (some ⟨g, off, none⟩) (n + 1) cap) (hg : g < w.heap.size) (hcell : w.cell? ⟨g, off, none⟩ = some (.int .u8 c)) (hok : ∀ k, ok k → k < w.heap.size) :
    Calls Tryd.prog 70 #[.slice (some ⟨g, off, none⟩) (n + 1) cap, .int .i64 ((D : Int) + 1 + 1)] w (MadeP (D + 1) w ok) := by
  have hn0 : ((n : Int) + 1 == 0) = false := by simp; omega
  have hn1 := hB.1
  have hn2 := hB.2.1
  have e0 : (0 : Int) ≤ c / 6 := by omega
  have e1 : c / 6 ≤ 42 := by omega
  obtain ⟨A', c', hrun, hB'⟩ := cut1 g off n cap hn1 hn2
  have HB' := Ap.of (hB' w ok hB)
  have IH := Ap.of ih
  have HL := Ap.of hL
  have HOK := Ap.of hok
  have t1 : (c % 6 == 1) = false := by simp; omega
  have t2 : (c % 6 == 2) = false := by simp; omega
  have t3 : (c % 6 == 3) = false := by simp; omega
  have t4 : (c % 6 == 4) = false := by simp; omega
  have t6 : (c % 6 == 5) = true := by simp; omega
  have t5 : decide (1 < (D : Int) + 1 + 1) = true := by simp; omega
  clear hB' hB ih hL hok hr
  obtain ⟨i0, hi, hzz⟩ := Option.map_eq_some_iff.1 Tryd.infoF
  simp only [Prod.mk.injEq] at hzz
  have HI := Ap.of (And.intro hi hzz)
  clear hi hzz
  go_enter Tryd.func70, Tryd.ntmps70
  go_wp2_with fail
  go_loopw [0, 95] (fun vb vi wr => ∃ (k : Nat) (A : Option Addr) (n c : Nat) (la : Option Addr) (ln lc : Nat) (xs : List Fld), k ≤ 4 ∧ vi = .int .i64 k ∧ vb = .slice A n c ∧ Ap (Bs wr ok A n c) ∧ Ap (xs.length = ln) ∧ ln ≤ k ∧ Ap ((xs.map Prod.fst).Sublist (namesOf.take k)) ∧ Ap (∀ x ∈ xs, GoodV (D + 1) x.2) ∧
    Ap (wr.heap[w.heap.size]? = some (.cells #[.int .i64 0, .int .i64 0, .string ⟨#[]⟩, .slice none 0 0, .slice none 0 0] 29 (0, 0))) ∧ Ap (wr.heap[w.heap.size + 1]? = some (.cells #[.int .i64 5, .int .i64 0, .string ⟨#[]⟩, .slice none 0 0, .slice la ln lc] 29 (0, 0))) ∧
    Ap (Own (KFld (KV (D + 1))) 69 w.heap.size wr (fun j => w.heap.size + 2 ≤ j) (.slice la ln lc) xs) ∧ Ap (Below w.heap.size w wr)) (fun _ vi _ => 4 - (intOf vi).toNat)
  case atStart =>
    refine ⟨0, A', n, c', none, 0, 0, [], by omega, rfl, rfl, Ap.of ((HB'.out.below (bel_alloc _ _)).below (bel_alloc _ _)), Ap.of rfl, by omega, Ap.of (by simp), Ap.of (fun x h => by simp at h), Ap.of (blk_old (blk_new rfl)), Ap.of (blk_new (by simp)), Ap.of (Own.nil _ _ _ _ _), Ap.of (bel_step (bel_alloc _ _) (bel_alloc _ _))⟩
  case round =>
    obtain ⟨k, A, n, cp, la, ln, lc, xs, hk, rfl, rfl, B, HXL, hln, SL, GD, B4, B8, O, BL⟩ := hrel
    clear HB' hrun
    by_cases hlt : k < 4
    · go_wp2_with fail
      · refine (IH.out A n cp _ ok (fun j hj => Nat.lt_of_lt_of_le (HOK.out j hj) BL.out.size) (HL.out.only (Only.of_below (BL.out.mono (Nat.le_refl _)) (fun _ => False)) (fun _ _ hf => hf)) B.out).mono ?_
        rintro e w3 ⟨x, xa, xn, xc, ya, yn, yc, A2, n2, c2, rfl, hx, hgd, hb2, hbl⟩
        have bk4 := blk_bel B4.out hbl
        have bk8 := blk_bel B8.out hbl
        have O3 := Ap.of (O.out.below hbl)
        have BL3 := Ap.of (bel_stepB BL.out BL.out.size hbl)
        have HX := Ap.of hx
        have HG := Ap.of hgd
        have HB2 := Ap.of hb2
        have WS : Ap (w.heap.size + 2 ≤ wr.heap.size) := Ap.of (blk_lt B8.out)
        have LT := Ap.of O.out.lt
        have OB := Ap.of O.out.1
        have c8 := blk_cells bk8
        have f8 := blk_free bk8
        have h8 : w.heap.size + 1 < w3.heap.size := blk_lt bk8
        have h9 : w.heap.size < w3.heap.size := by omega
        have h10 : w.heap.size + 1 < w3.heap.size + 1 := by omega
        have Bk4 := Ap.of bk4
        have Bk8 := Ap.of bk8
        obtain ⟨s, hs⟩ : ∃ s, namesOf[k]? = some s := ⟨_, List.getElem?_eq_getElem (by have : namesOf.length = 4 := rfl; omega)⟩
        have hL3 := HL.out.only (Only.of_below (BL3.out.mono (Nat.le_refl _)) (fun _ => False)) (fun _ _ hf => hf)
        have hnm := hL3.names k s hs
        have hlo : 7 < w3.heap.size := Nat.lt_of_lt_of_le (by decide) hL3.lo
        have HS := Ap.of hs
        clear B B4 B8 O hx hgd hb2 hbl bk4 bk8 hL3 hs
        go_wp2_with fail
        have X1 := Ap.of (Own.below (Own.below O3.out (bel_alloc w3 (.cells #[.int .i64 x.kind, .int .i64 x.int, .string x.text, .slice xa xn xc, .slice ya yn yc] 29))) (bel_alloc (w3.alloc (.cells #[.int .i64 x.kind, .int .i64 x.int, .string x.text, .slice xa xn xc, .slice ya yn yc] 29)) (.cells #[.string s, .int .i64 x.kind, .int .i64 x.int, .string x.text, .slice xa xn xc, .slice ya yn yc] 69)))
        have X3 : Ap ((KFld (KV (D + 1))).R ((w3.alloc (.cells #[.int .i64 x.kind, .int .i64 x.int, .string x.text, .slice xa xn xc, .slice ya yn yc] 29)).alloc (.cells #[.string s, .int .i64 x.kind, .int .i64 x.int, .string x.text, .slice xa xn xc, .slice ya yn yc] 69)) (fun j => wr.heap.size ≤ j) (s, x) [.string s, .int .i64 x.kind, .int .i64 x.int, .string x.text, .slice xa xn xc, .slice ya yn yc]) :=
          Ap.of ⟨_, rfl, by have := names_small (List.mem_of_getElem? HS.out); show s.size ≤ maxLen; unfold maxLen; omega, Knd.below (Knd.below HX.out (bel_alloc _ _)) (bel_alloc _ _)⟩
        go_region_law (refine step_append (W := (((w3.alloc (.cells #[.int .i64 x.kind, .int .i64 x.int, .string x.text, .slice xa xn xc, .slice ya yn yc] 29)).alloc (.cells #[.string s, .int .i64 x.kind, .int .i64 x.int, .string x.text, .slice xa xn xc, .slice ya yn yc] 69)).drew)) (K := KFld (KV (D + 1))) (gx := w3.heap.size + 1) (v := .slice la ln lc) (tx := 69) (e := 69) (B := w.heap.size) (ok := fun j => w.heap.size + 2 ≤ j) (okx := fun j => wr.heap.size ≤ j) (xs := xs) (x := (s, x)) (cs := [.string s, .int .i64 x.kind, .int .i64 x.int, .string x.text, .slice xa xn xc, .slice ya yn yc]) rfl (.tmp 111) (.tmp 117) 27 i0 _ 96 rfl Tryd.underlying27 HI.out.1 HI.out.2.1 HI.out.2.2.1 HI.out.2.2.2 rfl (Nat.succ_pos 5) rfl rfl (X1.out.below (Below.refl _ _).drew) (blk_new (by simp)) (Knd.below X3.out (Below.refl _ _).drew) (fun j hj => ⟨by have := WS.out; omega, fun he => by have := (LT.out j he.symm).2; omega⟩) (by intro j hj; have := h8; simp at hj; omega) (by rw [HXL.out]; omega) (by rw [HXL.out]; omega) (by have := h8; simp; omega) ?_; intro v5 w5 hO5 honly; (have O5 := Ap.of hO5); (have ON5 := Ap.of honly); clear hO5 honly; obtain ⟨A5, c5, hv5, _, _⟩ := O5.out.slice; rw [show (xs ++ [(s, x)]).length = ln + 1 from by simp [HXL.out]] at hv5; subst hv5; (have b8 := blk_only (blk_draw (blk_old (blk_old Bk8.out))) ON5.out (fun he => by have := OB.out _ he; omega)); (have c8 := blk_cells b8); (have f8 := blk_free b8); (have b8' := Ap.of b8); clear b8)
        all_goals
          (go_wp2_with fail
           go_roundw
           case rel =>
             have hs := Only.setCell w5 ⟨w.heap.size + 1, 4, none⟩ (.slice A5 (ln + 1) c5)
             have hLT : ∀ j, (Value.slice la ln lc).ownBlock = some j → w.heap.size + 2 ≤ j := OB.out
             have b4 := blk_only (blk_draw (blk_old (blk_old Bk4.out))) ON5.out (fun he => by have := hLT _ he; omega)
             have hb0 : Below w.heap.size w (((w3.alloc (.cells #[.int .i64 x.kind, .int .i64 x.int, .string x.text, .slice xa xn xc, .slice ya yn yc] 29)).alloc (.cells #[.string s, .int .i64 x.kind, .int .i64 x.int, .string x.text, .slice xa xn xc, .slice ya yn yc] 69)).drew) :=
               ((BL3.out.alloc (by omega) _).alloc (by simp; omega) _).drew
             have bl5 := bel_only hb0 (by have := h8; simp; omega) ON5.out (fun j he => by have := hLT j he; omega)
             have hB5 := (((HB2.out.below (bel_alloc _ _)).below (bel_alloc _ _)).below (bel_draw _)).only ON5.out (fun j hj he => by have := HOK.out j hj; have := hLT j he; omega)
             refine ⟨k + 1, A2, n2, c2, A5, ln + 1, c5, xs ++ [(s, x)], by omega, by go_num, rfl, Ap.of (hB5.only hs (fun j hj he => by have := HOK.out j hj; simp at he; omega)), Ap.of (by simp [HXL.out]), by omega, Ap.of ?_, Ap.of ?_, Ap.of (blk_only b4 hs (by simp)), Ap.of ?_, Ap.of (O5.out.only hs (fun j hj he => by simp at he; omega)), Ap.of (bel_only bl5 bl5.size hs (fun j he => by simp at he; omega))⟩
             · rw [List.map_append, List.take_add_one, HS.out]
               exact List.Sublist.append SL.out (List.Sublist.refl _)
             · intro y hy
               rcases List.mem_append.1 hy with hy | hy
               · exact GD.out y hy
               · rw [List.mem_singleton.1 hy]; exact HG.out
             · simpa using blk_set b8'.out 4 (.slice A5 (ln + 1) c5)
           case measure => simp [intOf]; omega)
      · go_roundw
        case rel => exact ⟨k + 1, A, n, cp, la, ln, lc, xs, by omega, by go_num, rfl, B, HXL, by omega, Ap.of (SL.out.trans (List.take_sublist_take_left (by omega))), GD, B4, B8, O, BL⟩
        case measure => simp [intOf]; omega
    · obtain rfl : k = 4 := by omega
      have c4 := blk_cells B4.out
      have f4 := blk_free B4.out
      have c8 := blk_cells B8.out
      have h8 := blk_lt B8.out
      obtain ⟨A6, c6, hv6, hrow⟩ := O.out.row
      rw [HXL.out] at hv6 hrow
      injection hv6 with hv6 _ hv7
      subst hv6 hv7
      have HROW := Ap.of hrow
      clear hrow
      go_wp2_with fail
      have hs := only5 wr w.heap.size (.int .i64 5) (.int .i64 0) (.string ⟨#[]⟩) (.slice none 0 0) (.slice la ln lc)
      exact bodyPost_ret (v := .tuple #[.agg #[.int .i64 5, .int .i64 0, .string ⟨#[]⟩, .slice none 0 0, .slice la ln lc], .slice A n cp]) (by simp [results, Tryd.results70, go_sem, c4]) rfl
        ⟨.mk 5 0 ⟨#[]⟩ [] xs, none, 0, 0, la, ln, lc, A, n, cp, rfl, ⟨none, 0, 0, la, ln, lc, rfl, i64_5, i64_0, empty_small, Row.nil _ _ _, (HROW.out.only hs (fun j hj he => by omega)).mono (fun j hj => by omega)⟩,
          ⟨c05, Int.le_refl _, i64_0, empty_word, by simp [Val.list], fun p hp => by simp [Val.list] at hp, SL.out, GD.out, .inr (.inr rfl), .inr rfl, .inr rfl, .inl rfl, fun h => by cases h⟩,
          B.out.only hs (fun j hj he => by have := HOK.out j hj; omega), bel_only BL.out BL.out.size hs (fun j he => by omega)⟩

theorem made_calls : ∀ D : Nat, D ≤ 101 → MadeS D
  | D, hD => by
    intro A n c w ok hok hL hB
    rcases Nat.eq_zero_or_pos n with rfl | hn
    · exact made_empty D ok w A c
    obtain ⟨n, rfl⟩ : ∃ m, n = m + 1 := ⟨n - 1, by omega⟩
    have hB0 := hB
    obtain ⟨_, _, _, h0 | ⟨g, off, rfl, hg, hgl, hx⟩⟩ := hB0
    · omega
    obtain ⟨x, hc, h0, h1⟩ := hx 0 (by omega)
    rw [Nat.add_zero] at hc
    have hr : x % 6 = 0 ∨ x % 6 = 1 ∨ x % 6 = 2 ∨ x % 6 = 3 ∨ x % 6 = 4 ∨ x % 6 = 5 := by omega
    rcases hr with hr | hr | hr | hr | hr | hr
    · exact made_null D g off n c x ok w h0 h1 (.inl hr) hB hgl hc
    · exact made_bool D g off n c x ok w h0 h1 hr hB hgl hc
    · exact made_int D g off n c x ok w h0 h1 hr hB hgl hc
    · exact made_text D g off n c x ok w h0 h1 hr hL hB hgl hc
    · cases D with
      | zero => exact made_null 0 g off n c x ok w h0 h1 (.inr ⟨rfl, .inl hr⟩) hB hgl hc
      | succ D => exact made_list D (by omega) (made_calls D (by omega)) g off n c x ok w h0 h1 hr hL hB hgl hc hok
    · cases D with
      | zero => exact made_null 0 g off n c x ok w h0 h1 (.inr ⟨rfl, .inr hr⟩) hB hgl hc
      | succ D => exact made_obj D (by omega) (made_calls D (by omega)) g off n c x ok w h0 h1 hr hL hB hgl hc hok

/-- b[:k]. -/
theorem cutTo (A : Option Addr) (n cap k : Nat) (hn : n ≤ cap) (hc : cap ≤ 9223372036854775807) (hA : A = none → cap = 0) (hk : k ≤ n) (w : World) :
    (Instr.slice 22 (.slice A n cap) none (some (.int .i64 (k : Int))) none).run Tryd.prog w = .ok (.slice A k cap) w := by
  have h1 : (k : Int) ≤ (cap : Int) := by omega
  cases A with
  | none =>
    obtain rfl := hA rfl
    obtain rfl : k = 0 := by omega
    simp [Instr.slice, Instr.sliceBounds, go_sem]
  | some a => simp [Instr.slice, Instr.sliceBounds, go_sem, h1]
theorem Bs.take {w : World} {ok : Nat → Prop} {A : Option Addr} {n c k : Nat} (h : Bs w ok A n c) (hk : k ≤ n) : Bs w ok A k c := by
  obtain ⟨h1, h2, h3, h4⟩ := h
  refine ⟨by omega, h2, h3, ?_⟩
  rcases h4 with h4 | ⟨g, off, e, a, b, f⟩
  · exact .inl (by omega)
  · exact .inr ⟨g, off, e, a, b, fun i hi => f i (by omega)⟩

end Go.Proofs.YtlomieopppndeaaDoor
