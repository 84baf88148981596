/- roundelaylaw05.Put: the other kinds; whole. -/
import Derived.Test.YtlomieopppndeaaDoorLKey2
namespace Go.Proofs.YtlomieopppndeaaDoor
open Go.RowKit

set_option maxRecDepth 100000 in
set_option maxHeartbeats 4000000 in
theorem lput_bool (e : Nat) (x : Val) (la : Option Addr) (ln lc : Nat) (fa : Option Addr) (fn fc : Nat) (w : World) (hk : x.kind = 1) (hi : x.int = 0 ∨ x.int = 1) :
    Calls Tryd.prog 19 #[.agg #[.int .i64 x.kind, .int .i64 x.int, .string x.text, .slice la ln lc, .slice fa fn fc]] w (PutP (e + 1) x w) := by
  rcases hi with hi | hi
  · have HO := Ap.of (show keyB (e + 1) x = ⟨([2, 0] : List UInt8).toArray⟩ by unfold keyB keyL; rw [hk, hi]; rfl)
    unfold PutP
    generalize keyB (e + 1) x = out at *
    generalize x.int = xi at *
    generalize x.text = xt at *
    generalize x.kind = xk at *
    subst hk
    subst hi
    have hcv := conv1 (w.alloc (.cells #[.int .i64 1, .int .i64 0, .string xt, .slice la ln lc, .slice fa fn fc] 29)) 2 (w.heap.size + 1) 2 rfl (by simp)
    have hcw := conv1 ((w.alloc (.cells #[.int .i64 1, .int .i64 0, .string xt, .slice la ln lc, .slice fa fn fc] 29)).alloc (.cells #[.int .u8 2] 5)) 0 (w.heap.size + 1 + 1) 0 rfl (by simp)
    have hcw2 := conv1 ((w.alloc (.cells #[.int .i64 1, .int .i64 0, .string xt, .slice la ln lc, .slice fa fn fc] 29)).alloc (.cells #[.int .u8 2] 5)) 0 (w.heap.size + 2) 0 rfl (by simp)
    go_enter Tryd.func19, Tryd.ntmps19
    go_wp2_with fail
    go_ret
    exact ⟨by rw [HO.out]; rfl, bel_step (bel_step (bel_alloc _ _) (bel_alloc _ _)) (bel_alloc _ _)⟩
  · have HO := Ap.of (show keyB (e + 1) x = ⟨([2, 1] : List UInt8).toArray⟩ by unfold keyB keyL; rw [hk, hi]; rfl)
    unfold PutP
    generalize keyB (e + 1) x = out at *
    generalize x.int = xi at *
    generalize x.text = xt at *
    generalize x.kind = xk at *
    subst hk
    subst hi
    have hcv := conv1 (w.alloc (.cells #[.int .i64 1, .int .i64 1, .string xt, .slice la ln lc, .slice fa fn fc] 29)) 2 (w.heap.size + 1) 2 rfl (by simp)
    have hcw := conv1 ((w.alloc (.cells #[.int .i64 1, .int .i64 1, .string xt, .slice la ln lc, .slice fa fn fc] 29)).alloc (.cells #[.int .u8 2] 5)) 1 (w.heap.size + 1 + 1) 1 rfl (by simp)
    have hcw2 := conv1 ((w.alloc (.cells #[.int .i64 1, .int .i64 1, .string xt, .slice la ln lc, .slice fa fn fc] 29)).alloc (.cells #[.int .u8 2] 5)) 1 (w.heap.size + 2) 1 rfl (by simp)
    go_enter Tryd.func19, Tryd.ntmps19
    go_wp2_with fail
    go_ret
    exact ⟨by rw [HO.out]; rfl, bel_step (bel_step (bel_alloc _ _) (bel_alloc _ _)) (bel_alloc _ _)⟩
set_option maxRecDepth 100000 in
set_option maxHeartbeats 4000000 in
theorem lput_text (e : Nat) (x : Val) (la : Option Addr) (ln lc : Nat) (fa : Option Addr) (fn fc : Nat) (w : World) (hk : x.kind = 3) (hi : x.text.size ≤ 16) :
    Calls Tryd.prog 19 #[.agg #[.int .i64 x.kind, .int .i64 x.int, .string x.text, .slice la ln lc, .slice fa fn fc]] w (PutP (e + 1) x w) := by
  have HO := Ap.of (show keyB (e + 1) x = ⟨([4] ++ writtenL x.text.data.toList : List UInt8).toArray⟩ by unfold keyB keyL; rw [hk]; rfl)
  have hlw : (⟨(writtenL x.text.data.toList).toArray⟩ : ByteArray).size ≤ 40 := by
    have h4 : (⟨(writtenL x.text.data.toList).toArray⟩ : ByteArray).size = (writtenL x.text.data.toList).length := List.size_toArray
    have h1 := written_len x.text.data.toList
    have h3 : x.text.data.toList.length = x.text.size := (by simp)
    omega
  unfold PutP
  rw [← cat2, show (⟨([4] : List UInt8).toArray⟩ : ByteArray) = ⟨#[4]⟩ from rfl] at HO
  have HWR := Ap.of (fun W => lwritten_calls x.text hi W)
  generalize (⟨(writtenL x.text.data.toList).toArray⟩ : ByteArray) = KW at *
  generalize keyB (e + 1) x = out at *
  clear hi
  generalize x.int = xi at *
  generalize x.text = xt at *
  generalize x.kind = xk at *
  subst hk
  have hcv := conv1 (w.alloc (.cells #[.int .i64 3, .int .i64 xi, .string xt, .slice la ln lc, .slice fa fn fc] 29)) 4 (w.heap.size + 1) 4 rfl (by simp)
  have z1 : ¬ 9223372036854775807 < 1 + KW.size := by omega
  go_enter Tryd.func19, Tryd.ntmps19
  go_wp2_with fail
  refine (HWR.out _).mono ?_
  rintro en w2 ⟨rfl, rfl⟩
  go_wp2_with fail
  go_ret
  exact ⟨by rw [HO.out]; rfl, bel_step (bel_alloc _ _) (bel_alloc _ _)⟩
set_option maxRecDepth 100000 in
set_option maxHeartbeats 4000000 in
theorem lput_list (e : Nat) (x : Val) (la : Option Addr) (ln lc : Nat) (fa : Option Addr) (fn fc : Nat) (w : World) (D C : Nat) (hk : x.kind = 4) (hn : x.list.length ≤ 3) (hC : C ≤ 100000) (hlen : ∀ y ∈ x.list, (keyL e y).length ≤ C) (hx : (KV (D + 2)).R w (fun _ => True) x [.int .i64 x.kind, .int .i64 x.int, .string x.text, .slice la ln lc, .slice fa fn fc])
    (hone : ∀ (y : Val) (la2 : Option Addr) (ln2 lc2 : Nat) (fa2 : Option Addr) (fn2 fc2 : Nat) (W : World), Below w.heap.size w W → y ∈ x.list → (KV (D + 1)).R W (fun _ => True) y [.int .i64 y.kind, .int .i64 y.int, .string y.text, .slice la2 ln2 lc2, .slice fa2 fn2 fc2] → Calls Tryd.prog 19 #[.agg #[.int .i64 y.kind, .int .i64 y.int, .string y.text, .slice la2 ln2 lc2, .slice fa2 fn2 fc2]] W (PutP e y W)) :
    Calls Tryd.prog 19 #[.agg #[.int .i64 x.kind, .int .i64 x.int, .string x.text, .slice la ln lc, .slice fa fn fc]] w (PutP (e + 1) x w) := by
  have HO := Ap.of (show keyB (e + 1) x = ⟨(5 :: x.list.flatMap (keyL e) ++ [0] : List UInt8).toArray⟩ by unfold keyB; rw [keyL, hk]; rfl)
  have hr := (KV_parts hx).2.2.2.1
  have hln := hr.length
  have hcap := hr.cap
  have HR := Ap.of hr
  have HLN := Ap.of hln
  have HLE := Ap.of hlen
  have HONE := Ap.of hone
  have HN3 := Ap.of (And.intro hn hC)
  clear hr hln hlen hone hx hn hC
  unfold PutP at *
  generalize keyB (e + 1) x = out at *
  generalize x.list = xs at *
  generalize x.int = xi at *
  generalize x.text = xt at *
  generalize x.kind = xk at *
  subst hk
  have hcv := conv1 (w.alloc (.cells #[.int .i64 4, .int .i64 xi, .string xt, .slice la ln lc, .slice fa fn fc] 29)) 5 (w.heap.size + 1) 5 rfl (by simp)
  go_enter Tryd.func19, Tryd.ntmps19
  go_wp2_with fail
  clear hcv
  go_loopw [3, 57] (fun v3 vi wr => ∃ (k : Nat) (acc : ByteArray), k ≤ ln ∧ vi = .int .i64 k ∧ v3 = .string acc ∧ Ap (acc = ⟨(5 :: (xs.take k).flatMap (keyL e) : List UInt8).toArray⟩) ∧ Ap (Below w.heap.size w wr)) (fun _ vi _ => ln - (intOf vi).toNat)
  case atStart => exact ⟨0, _, Nat.zero_le _, rfl, rfl, Ap.of rfl, Ap.of (bel_step (bel_alloc _ _) (bel_alloc _ _))⟩
  case round =>
    obtain ⟨k, acc, hk, rfl, rfl, HA, BL⟩ := hrel
    have hsz : acc.size ≤ 400000 := by
      have h := flatU_len (keyL e) C (xs.take k) (fun y hy => HLE.out y (List.mem_of_mem_take hy))
      have h2 : (xs.take k).length ≤ 3 := by rw [List.length_take]; have := HN3.out.1; omega
      have h3 := Nat.mul_le_mul h2 (Nat.le_refl C)
      have h4 := HN3.out.2
      rw [HA.out]
      show (5 :: (xs.take k).flatMap (keyL e) : List UInt8).toArray.size ≤ 400000
      rw [List.size_toArray, List.length_cons]
      omega
    by_cases hlt : k < ln
    · obtain ⟨g2, off, y, la2, ln2, lc2, fa2, fn2, fc2, rfl, hy, hrr, c0, c1, c2, c3, c4⟩ := val_cells (Row.below HR.out BL.out) hlt
      have hba := bel_alloc wr (.cells #[.int .i64 y.kind, .int .i64 y.int, .string y.text, .slice la2 ln2 lc2, .slice fa2 fn2 fc2] 29)
      have HC := Ap.of (HONE.out y la2 ln2 lc2 fa2 fn2 fc2 (wr.alloc (.cells #[.int .i64 y.kind, .int .i64 y.int, .string y.text, .slice la2 ln2 lc2, .slice fa2 fn2 fc2] 29)) (bel_stepB BL.out BL.out.size hba) (List.mem_of_getElem? hy) (Knd.below hrr hba))
      have HX := Ap.of (flat_next (keyL e) hy)
      have HLY := Ap.of (HLE.out y (List.mem_of_getElem? hy))
      have HBA := Ap.of hba
      have HLT := Ap.of hlt
      have hlt' : (k : Int) < (ln : Int) := by omega
      have lc0 := World.block_lt_of_cell? _ _ c0
      have hkb : keyB e y = ⟨(keyL e y).toArray⟩ := rfl
      rw [hkb] at HC
      clear hkb hy hrr hba
      generalize keyL e y = ky at *
      have hs2 : (⟨ky.toArray⟩ : ByteArray).size ≤ 100000 := by
        have h4 : (⟨ky.toArray⟩ : ByteArray).size = ky.length := List.size_toArray
        rw [h4]; have h1 := HLY.out; have h2 := HN3.out.2; omega
      have HNA := Ap.of (show acc ++ ⟨ky.toArray⟩ = ⟨(5 :: (xs.take (k + 1)).flatMap (keyL e) : List UInt8).toArray⟩ by rw [HA.out, HX.out]; exact cat2 _ ky)
      generalize (⟨ky.toArray⟩ : ByteArray) = KY at *
      have z1 : ¬ 9223372036854775807 < acc.size + KY.size := by omega
      clear hs2 hsz
      go_wp2_with fail
      refine HC.out.mono ?_
      rintro en w3 ⟨rfl, hb⟩
      have HB3 := Ap.of (bel_stepB BL.out BL.out.size (bel_step HBA.out hb))
      clear hb
      go_wp2_with fail
      go_roundw
      case rel => exact ⟨k + 1, _, by have := HLT.out; omega, by go_num, rfl, HNA, HB3⟩
      case measure => have := HLT.out; simp [intOf]; omega
    · obtain rfl : k = ln := by omega
      have hlt' : ¬ (k : Int) < (k : Int) := by omega
      have z1 : ¬ 9223372036854775807 < acc.size + 1 := by omega
      clear hsz
      have HTK := Ap.of (show xs.take k = xs by rw [← HLN.out, List.take_length])
      go_wp2_with fail
      go_ret
      exact ⟨by rw [HO.out, HA.out, HTK.out]; exact congrArg (fun x => Ending.returned (Value.string x)) (cat2 _ [0]), BL.out⟩
set_option maxRecDepth 100000 in
set_option maxHeartbeats 4000000 in
theorem lput_obj (e : Nat) (x : Val) (la : Option Addr) (ln lc : Nat) (fa : Option Addr) (fn fc : Nat) (w : World) (D C : Nat) (hk : x.kind = 5) (hn : x.fields.length ≤ 4) (hC : C ≤ 100000) (hlen : ∀ f ∈ x.fields, (keyL e f.2).length ≤ C) (hnm : ∀ f ∈ x.fields, f.1.size ≤ 16) (hx : (KV (D + 2)).R w (fun _ => True) x [.int .i64 x.kind, .int .i64 x.int, .string x.text, .slice la ln lc, .slice fa fn fc])
    (hone : ∀ (nm : ByteArray) (y : Val) (la2 : Option Addr) (ln2 lc2 : Nat) (fa2 : Option Addr) (fn2 fc2 : Nat) (W : World), Below w.heap.size w W → (nm, y) ∈ x.fields → (KV (D + 1)).R W (fun _ => True) y [.int .i64 y.kind, .int .i64 y.int, .string y.text, .slice la2 ln2 lc2, .slice fa2 fn2 fc2] → Calls Tryd.prog 19 #[.agg #[.int .i64 y.kind, .int .i64 y.int, .string y.text, .slice la2 ln2 lc2, .slice fa2 fn2 fc2]] W (PutP e y W)) :
    Calls Tryd.prog 19 #[.agg #[.int .i64 x.kind, .int .i64 x.int, .string x.text, .slice la ln lc, .slice fa fn fc]] w (PutP (e + 1) x w) := by
  have HO := Ap.of (show keyB (e + 1) x = ⟨(6 :: x.fields.flatMap (fun f => 1 :: (writtenL f.1.data.toList ++ keyL e f.2)) ++ [0] : List UInt8).toArray⟩ by unfold keyB; rw [keyL, hk]; rfl)
  have hr := (KV_parts hx).2.2.2.2
  have hln := hr.length
  have hcap := hr.cap
  have HR := Ap.of hr
  have HLN := Ap.of hln
  have HLE := Ap.of hlen
  have HNM := Ap.of hnm
  have HONE := Ap.of hone
  have HN3 := Ap.of (And.intro hn hC)
  clear hr hln hlen hone hx hn hC hnm
  unfold PutP at *
  generalize keyB (e + 1) x = out at *
  generalize x.fields = xs at *
  generalize x.int = xi at *
  generalize x.text = xt at *
  generalize x.kind = xk at *
  subst hk
  have hcv := conv1 (w.alloc (.cells #[.int .i64 5, .int .i64 xi, .string xt, .slice la ln lc, .slice fa fn fc] 29)) 6 (w.heap.size + 1) 6 rfl (by simp)
  go_enter Tryd.func19, Tryd.ntmps19
  go_wp2_with fail
  clear hcv
  go_loopw [3, 73] (fun v3 vi wr => ∃ (k : Nat) (acc : ByteArray), k ≤ fn ∧ vi = .int .i64 k ∧ v3 = .string acc ∧ Ap (acc = ⟨(6 :: (xs.take k).flatMap (fun f => 1 :: (writtenL f.1.data.toList ++ keyL e f.2)) : List UInt8).toArray⟩) ∧ Ap (Below w.heap.size w wr)) (fun _ vi _ => fn - (intOf vi).toNat)
  case atStart => exact ⟨0, _, Nat.zero_le _, rfl, rfl, Ap.of rfl, Ap.of (bel_step (bel_alloc _ _) (bel_alloc _ _))⟩
  case round =>
    obtain ⟨k, acc, hk, rfl, rfl, HA, BL⟩ := hrel
    have HWL := Ap.of (show ∀ f ∈ xs, (writtenL f.1.data.toList).length ≤ 40 from fun f hf => by
      have h1 := written_len f.1.data.toList
      have h2 := HNM.out f hf
      have h3 : f.1.data.toList.length = f.1.size := by simp
      omega)
    have hsz : acc.size ≤ 600000 := by
      have h := flatU_len (fun f : Fld => 1 :: (writtenL f.1.data.toList ++ keyL e f.2)) (C + 41) (xs.take k) (fun f hf => by
        have h1 := HWL.out f (List.mem_of_mem_take hf)
        have h2 := HLE.out f (List.mem_of_mem_take hf)
        rw [List.length_cons, List.length_append]
        omega)
      have h2 : (xs.take k).length ≤ 4 := by rw [List.length_take]; have := HN3.out.1; omega
      have h3 := Nat.mul_le_mul h2 (Nat.le_refl (C + 41))
      have h4 := HN3.out.2
      rw [HA.out]
      show (6 :: (xs.take k).flatMap (fun f => 1 :: (writtenL f.1.data.toList ++ keyL e f.2)) : List UInt8).toArray.size ≤ 600000
      rw [List.size_toArray, List.length_cons]
      omega
    by_cases hlt : k < fn
    · obtain ⟨g2, off, nm, y, la2, ln2, lc2, fa2, fn2, fc2, rfl, hy, hnm, hrr, c0, c1, c2, c3, c4, c5⟩ := fld_cells (Row.below HR.out BL.out) hlt
      have hba := bel_alloc wr (.cells #[.string nm, .int .i64 y.kind, .int .i64 y.int, .string y.text, .slice la2 ln2 lc2, .slice fa2 fn2 fc2] 69)
      have HX := Ap.of (flat_next (fun f : Fld => 1 :: (writtenL f.1.data.toList ++ keyL e f.2)) hy)
      have HLY := Ap.of (HLE.out _ (List.mem_of_getElem? hy))
      have HLW := Ap.of (HWL.out _ (List.mem_of_getElem? hy))
      have HNS := Ap.of (HNM.out _ (List.mem_of_getElem? hy))
      have HMY := Ap.of (List.mem_of_getElem? hy)
      have HRY := Ap.of (Knd.below hrr hba)
      have HBU := Ap.of (bel_stepB BL.out BL.out.size hba)
      have BU := Ap.of (blk_new (w := wr) (k := wr.heap.size) (o := .cells #[.string nm, .int .i64 y.kind, .int .i64 y.int, .string y.text, .slice la2 ln2 lc2, .slice fa2 fn2 fc2] 69) rfl)
      have HLT := Ap.of hlt
      have hlt' : (k : Int) < (fn : Int) := by omega
      have lc0 := World.block_lt_of_cell? _ _ c0
      clear hy hrr hba hnm
      go_upto_region 24 with fail
      clear c0 c1 c2 c3 c4 c5 lc0
      generalize wr.alloc (.cells #[.string nm, .int .i64 y.kind, .int .i64 y.int, .string y.text, .slice la2 ln2 lc2, .slice fa2 fn2 fc2] 69) = U at *
      generalize wr.heap.size = g7 at *
      have HWR := Ap.of (fun W => lwritten_calls nm HNS.out W)
      have HPU := Ap.of (fun W (hW : Below U.heap.size U W) => HONE.out nm y la2 ln2 lc2 fa2 fn2 fc2 W (bel_stepB HBU.out HBU.out.size hW) HMY.out (Knd.below HRY.out hW))
      have hkb : keyB e y = ⟨(keyL e y).toArray⟩ := rfl
      rw [hkb] at HPU
      clear hkb
      have HLY2 : (keyL e y).length ≤ C := HLY.out
      have HLW2 : (writtenL nm.data.toList).length ≤ 40 := HLW.out
      have HLA := Ap.of (And.intro HLY2 HLW2)
      clear HLY HLW HLY2 HLW2
      generalize keyL e y = ky at *
      generalize writtenL nm.data.toList = kw at *
      have hs1 : (⟨kw.toArray⟩ : ByteArray).size ≤ 40 := by
        have h4 : (⟨kw.toArray⟩ : ByteArray).size = kw.length := List.size_toArray
        rw [h4]; exact HLA.out.2
      have hs2 : (⟨ky.toArray⟩ : ByteArray).size ≤ 100000 := by
        have h4 : (⟨ky.toArray⟩ : ByteArray).size = ky.length := List.size_toArray
        rw [h4]; have h1 := HLA.out.1; have h2 := HN3.out.2; omega
      have HNA := Ap.of (show acc ++ ⟨#[1]⟩ ++ ⟨kw.toArray⟩ ++ ⟨ky.toArray⟩ = ⟨(6 :: (xs.take (k + 1)).flatMap (fun f => 1 :: (writtenL f.1.data.toList ++ keyL e f.2)) : List UInt8).toArray⟩ by
        rw [HA.out, HX.out]
        show (⟨(6 :: (xs.take k).flatMap (fun f => 1 :: (writtenL f.1.data.toList ++ keyL e f.2)) : List UInt8).toArray⟩ : ByteArray) ++ ⟨([1] : List UInt8).toArray⟩ ++ ⟨kw.toArray⟩ ++ ⟨ky.toArray⟩ = _
        rw [cat2, cat2, cat2, List.append_assoc, List.append_assoc]
        rfl)
      generalize (⟨kw.toArray⟩ : ByteArray) = KW at *
      generalize (⟨ky.toArray⟩ : ByteArray) = KY at *
      have z1 : ¬ 9223372036854775807 < acc.size + 1 := by omega
      have z2 : ¬ 9223372036854775807 < acc.size + 1 + KW.size := by omega
      have z3 : ¬ 9223372036854775807 < acc.size + 1 + KW.size + KY.size := by omega
      clear hs1 hs2 hsz
      have cu := blk_cells BU.out
      have lu := blk_lt BU.out
      go_region_with (first
        | (go_at_call 32; refine (HWR.out _).mono ?_; rintro en w5 ⟨rfl, rfl⟩)
        | (go_at_call 19; refine (HPU.out _ (Below.drew (Below.refl _ _))).mono ?_; rintro en w6 ⟨rfl, hq⟩; have hbP := bel_step (Below.drew (Below.refl _ _)) hq; have c6 := blk_cells (blk_bel BU.out hbP); have l6 := blk_lt (blk_bel BU.out hbP); have HBP := Ap.of (bel_stepB HBU.out HBU.out.size hbP); clear hq))
      all_goals
        go_wp2_with fail
        go_roundw
        case rel => exact ⟨k + 1, _, by have := HLT.out; omega, by go_num, rfl, HNA, HBP⟩
        case measure => have := HLT.out; simp [intOf]; omega
    · obtain rfl : k = fn := by omega
      have hlt' : ¬ (k : Int) < (k : Int) := by omega
      have z1 : ¬ 9223372036854775807 < acc.size + 1 := by omega
      clear hsz
      have HTK := Ap.of (show xs.take k = xs by rw [← HLN.out, List.take_length])
      go_wp2_with fail
      go_ret
      exact ⟨by rw [HO.out, HA.out, HTK.out]; exact congrArg (fun x => Ending.returned (Value.string x)) (cat2 _ [0]), BL.out⟩
/-- A value's key, by definition. -/
theorem lput_calls : ∀ (d D e : Nat) (x : Val) (la : Option Addr) (ln lc : Nat) (fa : Option Addr) (fn fc : Nat) (w : World), d ≤ D → d ≤ e → d ≤ 5 → GoodV d x → (KV D).R w (fun _ => True) x [.int .i64 x.kind, .int .i64 x.int, .string x.text, .slice la ln lc, .slice fa fn fc] → Calls Tryd.prog 19 #[.agg #[.int .i64 x.kind, .int .i64 x.int, .string x.text, .slice la ln lc, .slice fa fn fc]] w (PutP e x w)
  | 0, _, _, _, _, _, _, _, _, _, _, _, _, _, h, _ => h.elim
  | d + 1, D, e, x, la, ln, lc, fa, fn, fc, w, hD, he, h5, hg, hR => by
    obtain ⟨D, rfl⟩ : ∃ D', D = D' + 1 := ⟨D - 1, by omega⟩
    obtain ⟨e, rfl⟩ : ∃ e', e = e' + 1 := ⟨e - 1, by omega⟩
    have hg0 := hg
    obtain ⟨k0, k5, hi, ht, hl, hgl, hfs, hgf, _, _, hl4, hf5, hb⟩ := hg
    have hk : x.kind = 0 ∨ x.kind = 1 ∨ x.kind = 2 ∨ x.kind = 3 ∨ x.kind = 4 ∨ x.kind = 5 := by omega
    rcases hk with hk | hk | hk | hk | hk | hk
    · exact lput_null e x la ln lc fa fn fc w hk
    · exact lput_bool e x la ln lc fa fn fc w hk (hb hk)
    · exact lput_int e x la ln lc fa fn fc w hk hi
    · exact lput_text e x la ln lc fa fn fc w hk (words_small ht)
    · have hr := (KV_parts hR).2.2.2.1
      obtain ⟨D2, rfl⟩ | hD0 : (∃ D2, D = D2 + 1) ∨ D = 0 := by
        cases D with
        | zero => exact .inr rfl
        | succ D => exact .inl ⟨D, rfl⟩
      · exact lput_list e x la ln lc fa fn fc w D2 (keyC d) hk hl (keyC_le (by omega)) (fun y hy => key_len d y (hgl y hy) e) hR (fun y la2 ln2 lc2 fa2 fn2 fc2 W hW hy hyR => lput_calls d (D2 + 1) e y la2 ln2 lc2 fa2 fn2 fc2 W (by omega) (by omega) (by omega) (hgl y hy) hyR)
      · have hd0 : d = 0 := by omega
        subst hD0 hd0
        have hR1 : (KV 2).R w (fun _ => True) x [.int .i64 x.kind, .int .i64 x.int, .string x.text, .slice la ln lc, .slice fa fn fc] := KV_deeper 1 w _ x _ hR
        exact lput_list e x la ln lc fa fn fc w 0 (keyC 0) hk hl (by decide) (fun y hy => (hgl y hy).elim) hR1 (fun y la2 ln2 lc2 fa2 fn2 fc2 W hW hy hyR => (hgl y hy).elim)
    · obtain ⟨D2, rfl⟩ | hD0 : (∃ D2, D = D2 + 1) ∨ D = 0 := by
        cases D with
        | zero => exact .inr rfl
        | succ D => exact .inl ⟨D, rfl⟩
      · have hn4 : x.fields.length ≤ 4 := by
          have := hfs.length_le
          rw [List.length_map] at this
          exact this
        exact lput_obj e x la ln lc fa fn fc w D2 (keyC d) hk hn4 (keyC_le (by omega)) (fun f hf => key_len d f.2 (hgf f hf) e) (fun f hf => names_small (hfs.subset (List.mem_map_of_mem (f := Prod.fst) hf))) hR (fun nm y la2 ln2 lc2 fa2 fn2 fc2 W hW hy hyR => lput_calls d (D2 + 1) e y la2 ln2 lc2 fa2 fn2 fc2 W (by omega) (by omega) (by omega) (hgf _ hy) hyR)
      · have hd0 : d = 0 := by omega
        subst hD0 hd0
        have hn4 : x.fields.length ≤ 4 := by
          have := hfs.length_le
          rw [List.length_map] at this
          exact this
        have hR1 : (KV 2).R w (fun _ => True) x [.int .i64 x.kind, .int .i64 x.int, .string x.text, .slice la ln lc, .slice fa fn fc] := KV_deeper 1 w _ x _ hR
        exact lput_obj e x la ln lc fa fn fc w 0 (keyC 0) hk hn4 (by decide) (fun f hf => (hgf f hf).elim) (fun f hf => names_small (hfs.subset (List.mem_map_of_mem (f := Prod.fst) hf))) hR1 (fun nm y la2 ln2 lc2 fa2 fn2 fc2 W hW hy hyR => (hgf _ hy).elim)
end Go.Proofs.YtlomieopppndeaaDoor
