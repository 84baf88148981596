/- key.Put of lists and objects. -/
import Derived.Test.YtlomieopppndeaaDoorKeyPut
namespace Go.Proofs.YtlomieopppndeaaDoor
open Go.RowKit

theorem flat_next {α : Type} {xs : List α} {k : Nat} {x : α} (f : α → List UInt8) (hx : xs[k]? = some x) : (xs.take (k + 1)).flatMap f = (xs.take k).flatMap f ++ f x := by
  have hk : k < xs.length := (List.getElem?_eq_some_iff.1 hx).1
  rw [List.getElem?_eq_getElem hk] at hx
  injection hx with hx
  rw [List.take_succ_eq_append_getElem hk, List.flatMap_append, hx]
  simp
theorem cat3 (a b c : List UInt8) : (⟨a.toArray⟩ : ByteArray) ++ ⟨b.toArray⟩ ++ ⟨c.toArray⟩ = ⟨(a ++ b ++ c).toArray⟩ := by
  apply ByteArray.ext
  simp
set_option maxRecDepth 100000 in
set_option maxHeartbeats 4000000 in
theorem put_list (e : Nat) (x : Val) (la : Option Addr) (ln lc : Nat) (fa : Option Addr) (fn fc : Nat) (w : World) (D C : Nat) (hk : x.kind = 4) (hn : x.list.length ≤ 3) (hC : C ≤ 100000) (hlen : ∀ y ∈ x.list, (keyL e y).length ≤ C) (hx : (KV (D + 2)).R w (fun _ => True) x [.int .i64 x.kind, .int .i64 x.int, .string x.text, .slice la ln lc, .slice fa fn fc])
    (hone : ∀ (y : Val) (la2 : Option Addr) (ln2 lc2 : Nat) (fa2 : Option Addr) (fn2 fc2 : Nat) (W : World), Below w.heap.size w W → y ∈ x.list → (KV (D + 1)).R W (fun _ => True) y [.int .i64 y.kind, .int .i64 y.int, .string y.text, .slice la2 ln2 lc2, .slice fa2 fn2 fc2] → Calls Tryd.prog 37 #[.agg #[.int .i64 y.kind, .int .i64 y.int, .string y.text, .slice la2 ln2 lc2, .slice fa2 fn2 fc2]] W (PutP e y W)) :
    Calls Tryd.prog 37 #[.agg #[.int .i64 x.kind, .int .i64 x.int, .string x.text, .slice la ln lc, .slice fa fn fc]] w (PutP (e + 1) x w) := by
  have HO := Ap.of (show keyB (e + 1) x = ⟨(5 :: x.list.flatMap (keyL e) ++ [0] : List UInt8).toArray⟩ by unfold keyB keyL; rw [hk]; rfl)
  have hr := (KV_parts hx).2.2.2.1
  have hln := hr.length
  have hcap := hr.cap
  have HR := Ap.of hr
  have HLN := Ap.of hln
  have HLE := Ap.of hlen
  have HONE := Ap.of hone
  have HN3 := Ap.of (And.intro hn hC)
  clear hr hln hlen hone hx hn hC
  unfold PutP at *
  generalize keyB (e + 1) x = out at *
  generalize x.list = xs at *
  generalize x.int = xi at *
  generalize x.text = xt at *
  generalize x.kind = xk at *
  subst hk
  have hb0 := bel_step (bel_alloc w (.cells #[.int .i64 4, .int .i64 xi, .string xt, .slice la ln lc, .slice fa fn fc] 29)) (bel_alloc _ (.cells #[.pointer none, .slice none 0 0] 113))
  have HBV := Ap.of (blk_old (o' := .cells #[.pointer none, .slice none 0 0] 113) (blk_new (w := w) (k := w.heap.size) (o := .cells #[.int .i64 4, .int .i64 xi, .string xt, .slice la ln lc, .slice fa fn fc] 29) rfl))
  have HS0 := Ap.of (show w.heap.size + 1 ≤ ((w.alloc (.cells #[.int .i64 4, .int .i64 xi, .string xt, .slice la ln lc, .slice fa fn fc] 29)).alloc (.cells #[.pointer none, .slice none 0 0] 113)).heap.size by simp)
  have HI0 := Ap.of (bld_new w (.cells #[.int .i64 4, .int .i64 xi, .string xt, .slice la ln lc, .slice fa fn fc] 29))
  have HB0 := Ap.of hb0
  have HW1 := Ap.of (show Calls Tryd.prog 55 #[.pointer (some ⟨w.heap.size + 1, 0, none⟩), .int .u8 5] _ _ from wbyte _ _ [] 5 _ HI0.out (by decide) HS0.out)
  clear hb0
  go_enter Tryd.func37, Tryd.ntmps37
  go_wp2_with fail
  refine HW1.out.mono ?_
  rintro en w1 ⟨rfl, hi1, hb1⟩
  have HI1 := Ap.of hi1
  have HS1 := Ap.of (Nat.le_trans HS0.out hb1.size)
  have HB1 := Ap.of (bel_hi HB0.out hb1)
  have hbv := blk_belB HBV.out hb1 (Nat.lt_succ_self _)
  have cv := blk_cells hbv
  have lv := blk_lt hbv
  clear hi1 hb1 hbv HW1
  go_wp2_with fail
  clear cv lv
  go_loopw [38] (fun vi wr => ∃ (k : Nat), k ≤ ln ∧ vi = .int .i64 k ∧ Ap (Lib.IsBuilder 113 5 (w.heap.size + 1) (w.heap.size + 1) (Lib.byteCells (5 :: (xs.take k).flatMap (keyL e))) wr) ∧ Ap (w.heap.size + 1 ≤ wr.heap.size) ∧ Ap (Below w.heap.size w wr)) (fun vi _ => ln - (intOf vi).toNat)
  case atStart => exact ⟨0, Nat.zero_le _, rfl, HI1, HS1, HB1⟩
  case round =>
    obtain ⟨k, hk, rfl, HI, HS, BL⟩ := hrel
    have HL0 := Ap.of (show (5 :: (xs.take k).flatMap (keyL e) : List UInt8).length ≤ 400000 by
      have h := flatU_len (keyL e) C (xs.take k) (fun y hy => HLE.out y (List.mem_of_mem_take hy))
      have h2 : (xs.take k).length ≤ 3 := by rw [List.length_take]; have := HN3.out.1; omega
      have h3 := Nat.mul_le_mul h2 (Nat.le_refl C)
      have h4 := HN3.out.2
      rw [List.length_cons]
      omega)
    by_cases hlt : k < ln
    · obtain ⟨g2, off, y, la2, ln2, lc2, fa2, fn2, fc2, rfl, hy, hrr, c0, c1, c2, c3, c4⟩ := val_cells (Row.below HR.out BL.out) hlt
      have hba := bel_alloc wr (.cells #[.int .i64 y.kind, .int .i64 y.int, .string y.text, .slice la2 ln2 lc2, .slice fa2 fn2 fc2] 29)
      have HC := Ap.of (HONE.out y la2 ln2 lc2 fa2 fn2 fc2 (wr.alloc (.cells #[.int .i64 y.kind, .int .i64 y.int, .string y.text, .slice la2 ln2 lc2, .slice fa2 fn2 fc2] 29)) (bel_stepB BL.out BL.out.size hba) (List.mem_of_getElem? hy) (Knd.below hrr hba))
      have HX := Ap.of (flat_next (keyL e) hy)
      have HLY := Ap.of (HLE.out y (List.mem_of_getElem? hy))
      have HBA := Ap.of hba
      have HLT := Ap.of hlt
      have hlt' : (k : Int) < (ln : Int) := by omega
      have lc0 := World.block_lt_of_cell? _ _ c0
      have hkb : keyB e y = ⟨(keyL e y).toArray⟩ := rfl
      rw [hkb] at HC
      clear hkb hy hrr hba
      generalize keyL e y = ky at *
      go_wp2_with fail
      refine HC.out.mono ?_
      rintro en w3 ⟨rfl, hb⟩
      have hb2 := bel_step HBA.out hb
      have HI3 := Ap.of (isBuilder_below HI.out hb2)
      have HS3 := Ap.of (Nat.le_trans HS.out hb2.size)
      have HB3 := Ap.of (bel_stepB BL.out BL.out.size hb2)
      clear hb hb2
      go_wp2_with fail
      refine (wstr _ _ _ ky w3 HI3.out (by have h1 := HL0.out; have h2 := HLY.out; have h3 := HN3.out.2; omega) HS3.out).mono ?_
      rintro en w4 ⟨⟨n4, rfl⟩, hi4, hb4⟩
      have HI4 := Ap.of hi4
      have HS4 := Ap.of (Nat.le_trans HS3.out hb4.size)
      have HB4 := Ap.of (bel_hi HB3.out hb4)
      clear hi4 hb4
      go_wp2_with fail
      go_roundw
      case rel => exact ⟨k + 1, by have := HLT.out; omega, by go_num, by rw [HX.out]; exact HI4, HS4, HB4⟩
      case measure => have := HLT.out; simp [intOf]; omega
    · obtain rfl : k = ln := by omega
      have hlt' : ¬ (k : Int) < (k : Int) := by omega
      have HTK := Ap.of (show xs.take k = xs by rw [← HLN.out, List.take_length])
      go_wp2_with fail
      refine (wstr _ _ _ [0] wr HI.out (by have := HL0.out; have h1 : ([0] : List UInt8).length = 1 := rfl; omega) HS.out).mono ?_
      rintro en w8 ⟨⟨n8, rfl⟩, hi8, hb8⟩
      have HI8 := Ap.of hi8
      have HS8 := Ap.of (Nat.le_trans HS.out hb8.size)
      have HB8 := Ap.of (bel_hi BL.out hb8)
      clear hi8 hb8
      go_wp2_with fail
      refine (wdone _ _ _ _ HI8.out HS8.out).mono ?_
      rintro en w9 ⟨rfl, hb9⟩
      have HB9 := Ap.of (bel_hi HB8.out hb9)
      clear hb9
      go_wp2_with fail
      go_ret
      exact ⟨by rw [HO.out, HTK.out]; rfl, HB9.out⟩
set_option maxRecDepth 100000 in
set_option maxHeartbeats 4000000 in
theorem put_obj (e : Nat) (x : Val) (la : Option Addr) (ln lc : Nat) (fa : Option Addr) (fn fc : Nat) (w : World) (D C : Nat) (hk : x.kind = 5) (hn : x.fields.length ≤ 4) (hC : C ≤ 100000) (hlen : ∀ f ∈ x.fields, (keyL e f.2).length ≤ C) (hnm : ∀ f ∈ x.fields, f.1.size ≤ 16) (G : ParG w) (hx : (KV (D + 2)).R w (fun _ => True) x [.int .i64 x.kind, .int .i64 x.int, .string x.text, .slice la ln lc, .slice fa fn fc])
    (hone : ∀ (nm : ByteArray) (y : Val) (la2 : Option Addr) (ln2 lc2 : Nat) (fa2 : Option Addr) (fn2 fc2 : Nat) (W : World), Below w.heap.size w W → (nm, y) ∈ x.fields → (KV (D + 1)).R W (fun _ => True) y [.int .i64 y.kind, .int .i64 y.int, .string y.text, .slice la2 ln2 lc2, .slice fa2 fn2 fc2] → Calls Tryd.prog 37 #[.agg #[.int .i64 y.kind, .int .i64 y.int, .string y.text, .slice la2 ln2 lc2, .slice fa2 fn2 fc2]] W (PutP e y W)) :
    Calls Tryd.prog 37 #[.agg #[.int .i64 x.kind, .int .i64 x.int, .string x.text, .slice la ln lc, .slice fa fn fc]] w (PutP (e + 1) x w) := by
  have HO := Ap.of (show keyB (e + 1) x = ⟨(6 :: x.fields.flatMap (fun f => 1 :: (writtenL f.1.data.toList ++ keyL e f.2)) ++ [0] : List UInt8).toArray⟩ by unfold keyB; rw [keyL, hk]; rfl)
  have hr := (KV_parts hx).2.2.2.2
  have hln := hr.length
  have hcap := hr.cap
  have HR := Ap.of hr
  have HLN := Ap.of hln
  have HLE := Ap.of hlen
  have HNM := Ap.of hnm
  have HONE := Ap.of hone
  have HN3 := Ap.of (And.intro hn hC)
  have GG := Ap.of G
  clear hr hln hlen hone hx hn hC hnm G
  unfold PutP at *
  generalize keyB (e + 1) x = out at *
  generalize x.fields = xs at *
  generalize x.int = xi at *
  generalize x.text = xt at *
  generalize x.kind = xk at *
  subst hk
  have hb0 := bel_step (bel_alloc w (.cells #[.int .i64 5, .int .i64 xi, .string xt, .slice la ln lc, .slice fa fn fc] 29)) (bel_alloc _ (.cells #[.pointer none, .slice none 0 0] 113))
  have HBV := Ap.of (blk_old (o' := .cells #[.pointer none, .slice none 0 0] 113) (blk_new (w := w) (k := w.heap.size) (o := .cells #[.int .i64 5, .int .i64 xi, .string xt, .slice la ln lc, .slice fa fn fc] 29) rfl))
  have HS0 := Ap.of (show w.heap.size + 1 ≤ ((w.alloc (.cells #[.int .i64 5, .int .i64 xi, .string xt, .slice la ln lc, .slice fa fn fc] 29)).alloc (.cells #[.pointer none, .slice none 0 0] 113)).heap.size by simp)
  have HI0 := Ap.of (bld_new w (.cells #[.int .i64 5, .int .i64 xi, .string xt, .slice la ln lc, .slice fa fn fc] 29))
  have HB0 := Ap.of hb0
  have HW1 := Ap.of (show Calls Tryd.prog 55 #[.pointer (some ⟨w.heap.size + 1, 0, none⟩), .int .u8 6] _ _ from wbyte _ _ [] 6 _ HI0.out (by decide) HS0.out)
  clear hb0
  go_enter Tryd.func37, Tryd.ntmps37
  go_wp2_with fail
  refine HW1.out.mono ?_
  rintro en w1 ⟨rfl, hi1, hb1⟩
  have HI1 := Ap.of hi1
  have HS1 := Ap.of (Nat.le_trans HS0.out hb1.size)
  have HB1 := Ap.of (bel_hi HB0.out hb1)
  have hbv := blk_belB HBV.out hb1 (Nat.lt_succ_self _)
  have cv := blk_cells hbv
  have lv := blk_lt hbv
  clear hi1 hb1 hbv HW1
  go_wp2_with fail
  clear cv lv
  go_loopw [52] (fun vi wr => ∃ (k : Nat), k ≤ fn ∧ vi = .int .i64 k ∧ Ap (Lib.IsBuilder 113 5 (w.heap.size + 1) (w.heap.size + 1) (Lib.byteCells (6 :: (xs.take k).flatMap (fun f => 1 :: (writtenL f.1.data.toList ++ keyL e f.2)))) wr) ∧ Ap (w.heap.size + 1 ≤ wr.heap.size) ∧ Ap (Below w.heap.size w wr)) (fun vi _ => fn - (intOf vi).toNat)
  case atStart => exact ⟨0, Nat.zero_le _, rfl, HI1, HS1, HB1⟩
  case round =>
    obtain ⟨k, hk, rfl, HI, HS, BL⟩ := hrel
    have HWL := Ap.of (show ∀ f ∈ xs, (writtenL f.1.data.toList).length ≤ 40 from fun f hf => by
      have h1 := written_len f.1.data.toList
      have h2 := HNM.out f hf
      have h3 : f.1.data.toList.length = f.1.size := by simp
      omega)
    have HL0 := Ap.of (show (6 :: (xs.take k).flatMap (fun f => 1 :: (writtenL f.1.data.toList ++ keyL e f.2)) : List UInt8).length ≤ 600000 by
      have h := flatU_len (fun f : Fld => 1 :: (writtenL f.1.data.toList ++ keyL e f.2)) (C + 41) (xs.take k) (fun f hf => by
        have h1 := HWL.out f (List.mem_of_mem_take hf)
        have h2 := HLE.out f (List.mem_of_mem_take hf)
        rw [List.length_cons, List.length_append]
        omega)
      have h2 : (xs.take k).length ≤ 4 := by rw [List.length_take]; have := HN3.out.1; omega
      have h3 := Nat.mul_le_mul h2 (Nat.le_refl (C + 41))
      have h4 := HN3.out.2
      rw [List.length_cons]
      omega)
    by_cases hlt : k < fn
    · obtain ⟨g2, off, nm, y, la2, ln2, lc2, fa2, fn2, fc2, rfl, hy, hnm, hrr, c0, c1, c2, c3, c4, c5⟩ := fld_cells (Row.below HR.out BL.out) hlt
      have hba := bel_alloc wr (.cells #[.string nm, .int .i64 y.kind, .int .i64 y.int, .string y.text, .slice la2 ln2 lc2, .slice fa2 fn2 fc2] 69)
      have HX := Ap.of (flat_next (fun f : Fld => 1 :: (writtenL f.1.data.toList ++ keyL e f.2)) hy)
      have HLY := Ap.of (HLE.out _ (List.mem_of_getElem? hy))
      have HLW := Ap.of (HWL.out _ (List.mem_of_getElem? hy))
      have HNS := Ap.of (HNM.out _ (List.mem_of_getElem? hy))
      have HMY := Ap.of (List.mem_of_getElem? hy)
      have HRY := Ap.of (Knd.below hrr hba)
      have HBU := Ap.of (bel_stepB BL.out BL.out.size hba)
      have HIU := Ap.of (isBuilder_below HI.out hba)
      have HSU := Ap.of (Nat.le_trans HS.out hba.size)
      have BU := Ap.of (blk_new (w := wr) (k := wr.heap.size) (o := .cells #[.string nm, .int .i64 y.kind, .int .i64 y.int, .string y.text, .slice la2 ln2 lc2, .slice fa2 fn2 fc2] 69) rfl)
      have HLT := Ap.of hlt
      have hlt' : (k : Int) < (fn : Int) := by omega
      have lc0 := World.block_lt_of_cell? _ _ c0
      clear hy hrr hba hnm
      go_upto_region 21 with fail
      clear c0 c1 c2 c3 c4 c5 lc0
      generalize wr.alloc (.cells #[.string nm, .int .i64 y.kind, .int .i64 y.int, .string y.text, .slice la2 ln2 lc2, .slice fa2 fn2 fc2] 69) = U at *
      generalize wr.heap.size = g7 at *
      have HWR := Ap.of (fun W (hW : Below U.heap.size U W) => written_calls nm HNS.out W (GG.out.below (bel_stepB HBU.out HBU.out.size hW)))
      have HPU := Ap.of (fun W (hW : Below U.heap.size U W) => HONE.out nm y la2 ln2 lc2 fa2 fn2 fc2 W (bel_stepB HBU.out HBU.out.size hW) HMY.out (Knd.below HRY.out hW))
      have hkb : keyB e y = ⟨(keyL e y).toArray⟩ := rfl
      rw [hkb] at HPU
      clear hkb
      have HLY2 : (keyL e y).length ≤ C := HLY.out
      have HLW2 : (writtenL nm.data.toList).length ≤ 40 := HLW.out
      have HLA := Ap.of (And.intro HLY2 HLW2)
      clear HLY HLW HLY2 HLW2
      generalize keyL e y = ky at *
      generalize writtenL nm.data.toList = kw at *
      have HW4 := Ap.of (fun W (hW : Below U.heap.size U W) => wstr _ _ _ ([1] ++ kw ++ ky) W (isBuilder_below HIU.out hW) (by
        have h1 := HL0.out
        have h2 := HLA.out
        have h3 := HN3.out.2
        rw [List.length_append, List.length_append]
        have h4 : ([1] : List UInt8).length = 1 := rfl
        omega) (Nat.le_trans HSU.out hW.size))
      rw [← cat3 [1] kw ky, show (⟨([1] : List UInt8).toArray⟩ : ByteArray) = ⟨#[1]⟩ from rfl] at HW4
      have hs1 : (⟨kw.toArray⟩ : ByteArray).size ≤ 40 := by
        have h4 : (⟨kw.toArray⟩ : ByteArray).size = kw.length := List.size_toArray
        rw [h4]; exact HLA.out.2
      have hs2 : (⟨ky.toArray⟩ : ByteArray).size ≤ 100000 := by
        have h4 : (⟨ky.toArray⟩ : ByteArray).size = ky.length := List.size_toArray
        rw [h4]; have h1 := HLA.out.1; have h2 := HN3.out.2; omega
      generalize (⟨kw.toArray⟩ : ByteArray) = KW at *
      generalize (⟨ky.toArray⟩ : ByteArray) = KY at *
      have hz1 : ¬ 9223372036854775807 < 1 + KW.size := by omega
      have hz2 : ¬ 9223372036854775807 < 1 + KW.size + KY.size := by omega
      clear hs1 hs2
      have cu := blk_cells BU.out
      have lu := blk_lt BU.out
      go_region_with (first
        | (go_at_call 58; refine (HWR.out _ (by first | exact hbP | exact Below.drew (Below.refl _ _))).mono ?_; rintro en w5 ⟨rfl, hq⟩; have hbW := bel_step (by first | exact hbP | exact Below.drew (Below.refl _ _)) hq; have c5 := blk_cells (blk_bel BU.out hbW); have l5 := blk_lt (blk_bel BU.out hbW); clear hq)
        | (go_at_call 37; refine (HPU.out _ (by first | exact hbW | exact Below.drew (Below.refl _ _))).mono ?_; rintro en w6 ⟨rfl, hq⟩; have hbP := bel_step (by first | exact hbW | exact Below.drew (Below.refl _ _)) hq; have c6 := blk_cells (blk_bel BU.out hbP); have l6 := blk_lt (blk_bel BU.out hbP); clear hq)
        | (go_at_call 56; refine (HW4.out _ (by first | exact hbP | exact hbW)).mono ?_; rintro en w4 ⟨⟨n4, rfl⟩, hi4, hb4⟩; have HI4 := Ap.of hi4; have HB4 := Ap.of (bel_hi (by first | exact bel_stepB HBU.out HBU.out.size hbP | exact bel_stepB HBU.out HBU.out.size hbW) hb4); have HS4 := Ap.of (by first | exact Nat.le_trans (Nat.le_trans HSU.out hbP.size) hb4.size | exact Nat.le_trans (Nat.le_trans HSU.out hbW.size) hb4.size); clear hi4 hb4))
      all_goals
        go_wp2_with fail
        go_roundw
        case rel => exact ⟨k + 1, by have := HLT.out; omega, by go_num, by rw [HX.out]; exact HI4, HS4, HB4⟩
        case measure => have := HLT.out; simp [intOf]; omega
    · obtain rfl : k = fn := by omega
      have hlt' : ¬ (k : Int) < (k : Int) := by omega
      have HTK := Ap.of (show xs.take k = xs by rw [← HLN.out, List.take_length])
      go_wp2_with fail
      refine (wstr _ _ _ [0] wr HI.out (by have := HL0.out; have h1 : ([0] : List UInt8).length = 1 := rfl; omega) HS.out).mono ?_
      rintro en w8 ⟨⟨n8, rfl⟩, hi8, hb8⟩
      have HI8 := Ap.of hi8
      have HS8 := Ap.of (Nat.le_trans HS.out hb8.size)
      have HB8 := Ap.of (bel_hi BL.out hb8)
      clear hi8 hb8
      go_wp2_with fail
      refine (wdone _ _ _ _ HI8.out HS8.out).mono ?_
      rintro en w9 ⟨rfl, hb9⟩
      have HB9 := Ap.of (bel_hi HB8.out hb9)
      clear hb9
      go_wp2_with fail
      go_ret
      exact ⟨by rw [HO.out, HTK.out]; rfl, HB9.out⟩
/-- A value's key. -/
theorem put_calls : ∀ (d D e : Nat) (x : Val) (la : Option Addr) (ln lc : Nat) (fa : Option Addr) (fn fc : Nat) (w : World), d ≤ D → d ≤ e → d ≤ 5 → GoodV d x → ParG w → (KV D).R w (fun _ => True) x [.int .i64 x.kind, .int .i64 x.int, .string x.text, .slice la ln lc, .slice fa fn fc] → Calls Tryd.prog 37 #[.agg #[.int .i64 x.kind, .int .i64 x.int, .string x.text, .slice la ln lc, .slice fa fn fc]] w (PutP e x w)
  | 0, _, _, _, _, _, _, _, _, _, _, _, _, _, h, _, _ => h.elim
  | d + 1, D, e, x, la, ln, lc, fa, fn, fc, w, hD, he, h5, hg, G, hR => by
    obtain ⟨D, rfl⟩ : ∃ D', D = D' + 1 := ⟨D - 1, by omega⟩
    obtain ⟨e, rfl⟩ : ∃ e', e = e' + 1 := ⟨e - 1, by omega⟩
    have hg0 := hg
    obtain ⟨k0, k5, hi, ht, hl, hgl, hfs, hgf, _, _, hl4, hf5, hb⟩ := hg
    have hk : x.kind = 0 ∨ x.kind = 1 ∨ x.kind = 2 ∨ x.kind = 3 ∨ x.kind = 4 ∨ x.kind = 5 := by omega
    rcases hk with hk | hk | hk | hk | hk | hk
    · exact put_null e x la ln lc fa fn fc w hk
    · exact put_bool e x la ln lc fa fn fc w hk (hb hk)
    · exact put_int e x la ln lc fa fn fc w hk hi
    · exact put_text e x la ln lc fa fn fc w hk (words_small ht) G
    · have hr := (KV_parts hR).2.2.2.1
      obtain ⟨D2, rfl⟩ | hD0 : (∃ D2, D = D2 + 1) ∨ D = 0 := by
        cases D with
        | zero => exact .inr rfl
        | succ D => exact .inl ⟨D, rfl⟩
      · exact put_list e x la ln lc fa fn fc w D2 (keyC d) hk hl (keyC_le (by omega)) (fun y hy => key_len d y (hgl y hy) e) hR (fun y la2 ln2 lc2 fa2 fn2 fc2 W hW hy hyR => put_calls d (D2 + 1) e y la2 ln2 lc2 fa2 fn2 fc2 W (by omega) (by omega) (by omega) (hgl y hy) (G.below hW) hyR)
      · have hd0 : d = 0 := by omega
        subst hD0 hd0
        have hR1 : (KV 2).R w (fun _ => True) x [.int .i64 x.kind, .int .i64 x.int, .string x.text, .slice la ln lc, .slice fa fn fc] := KV_deeper 1 w _ x _ hR
        exact put_list e x la ln lc fa fn fc w 0 (keyC 0) hk hl (by decide) (fun y hy => (hgl y hy).elim) hR1 (fun y la2 ln2 lc2 fa2 fn2 fc2 W hW hy hyR => (hgl y hy).elim)
    · obtain ⟨D2, rfl⟩ | hD0 : (∃ D2, D = D2 + 1) ∨ D = 0 := by
        cases D with
        | zero => exact .inr rfl
        | succ D => exact .inl ⟨D, rfl⟩
      · have hn4 : x.fields.length ≤ 4 := by
          have := hfs.length_le
          rw [List.length_map] at this
          exact this
        exact put_obj e x la ln lc fa fn fc w D2 (keyC d) hk hn4 (keyC_le (by omega)) (fun f hf => key_len d f.2 (hgf f hf) e) (fun f hf => names_small (hfs.subset (List.mem_map_of_mem (f := Prod.fst) hf))) G hR (fun nm y la2 ln2 lc2 fa2 fn2 fc2 W hW hy hyR => put_calls d (D2 + 1) e y la2 ln2 lc2 fa2 fn2 fc2 W (by omega) (by omega) (by omega) (hgf _ hy) (G.below hW) hyR)
      · have hd0 : d = 0 := by omega
        subst hD0 hd0
        have hn4 : x.fields.length ≤ 4 := by
          have := hfs.length_le
          rw [List.length_map] at this
          exact this
        have hR1 : (KV 2).R w (fun _ => True) x [.int .i64 x.kind, .int .i64 x.int, .string x.text, .slice la ln lc, .slice fa fn fc] := KV_deeper 1 w _ x _ hR
        exact put_obj e x la ln lc fa fn fc w 0 (keyC 0) hk hn4 (by decide) (fun f hf => (hgf f hf).elim) (fun f hf => names_small (hfs.subset (List.mem_map_of_mem (f := Prod.fst) hf))) G hR1 (fun nm y la2 ln2 lc2 fa2 fn2 fc2 W hW hy hyR => (hgf _ hy).elim)
end Go.Proofs.YtlomieopppndeaaDoor
