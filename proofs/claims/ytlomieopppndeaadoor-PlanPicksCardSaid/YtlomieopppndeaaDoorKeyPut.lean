/- key.Put: a value's key. -/
import Derived.Test.YtlomieopppndeaaDoorKeyNum
import Derived.Test.YtlomieopppndeaaDoorKeyRep
import Derived.Test.YtlomieopppndeaaDoorKeyB
import Derived.Test.YtlomieopppndeaaDoorPlanDoc
namespace Go.Proofs.YtlomieopppndeaaDoor
open Go.RowKit

set_option maxRecDepth 100000 in
set_option maxHeartbeats 4000000 in
theorem written_calls (s : ByteArray) (hs : s.size ≤ 16) (w : World) (G : ParG w) : Calls Tryd.prog 58 #[.string s] w fun e w' => e = .returned (.string ⟨(writtenL s.data.toList).toArray⟩) ∧ Below w.heap.size w w' := by
  obtain ⟨m, hm⟩ := G.ml
  have hl : s.size + Lib.countB s ⟨#[0]⟩ * (⟨#[0, 255]⟩ : ByteArray).size ≤ 140737488355328 := by
    have h1 := Lib.countB_le ⟨#[0]⟩ (by decide) 16 s hs
    show s.size + Lib.countB s ⟨#[0]⟩ * 2 ≤ _
    omega
  have HC := Ap.of (Tryd.strings_ReplaceAll s ⟨#[0]⟩ ⟨#[0, 255]⟩ m w (by omega) hm (by decide) hl)
  have e0 : Lib.replaceAll s.data.toList (⟨#[0]⟩ : ByteArray).data.toList (⟨#[0, 255]⟩ : ByteArray).data.toList = s.data.toList.flatMap escB := replaceAll_esc _
  rw [e0] at HC
  have hn : (s.data.toList.flatMap escB).toArray.size ≤ 40 := by
    have h := written_len s.data.toList
    unfold writtenL at h
    rw [List.length_append] at h
    have h3 : s.data.toList.length = s.size := by simp
    have h4 : ([0, 1] : List UInt8).length = 2 := rfl
    rw [List.size_toArray]
    omega
  have HO := Ap.of (show writtenL s.data.toList = s.data.toList.flatMap escB ++ [0, 1] from rfl)
  generalize writtenL s.data.toList = out at *
  generalize s.data.toList.flatMap escB = l at *
  have hsz : (⟨l.toArray⟩ : ByteArray).size ≤ 40 := hn
  have hsz2 : (⟨l.toArray⟩ : ByteArray).size + (⟨#[0, 1]⟩ : ByteArray).size ≤ 9223372036854775807 := by
    have : (⟨#[0, 1]⟩ : ByteArray).size = 2 := rfl
    omega
  clear e0 hm hl hn
  go_enter Tryd.func58, Tryd.ntmps58
  go_wp2_with fail
  refine HC.out.mono ?_
  rintro e w1 ⟨rfl, hb⟩
  have HB := Ap.of hb
  clear hb
  go_wp2_with fail
  go_ret
  exact ⟨by rw [HO.out]; congr 2, HB.out⟩
theorem keyC_le {d : Nat} (h : d ≤ 5) : keyC d ≤ 100000 := by
  match d, h with
  | 0, _ | 1, _ | 2, _ | 3, _ | 4, _ | 5, _ => decide
/-- The call's own builder, new. -/
theorem bld_new (w : World) (o : Obj) : Lib.IsBuilder 113 5 (w.heap.size + 1) (w.heap.size + 1) (Lib.byteCells []) ((w.alloc o).alloc (.cells #[.pointer none, .slice none 0 0] 113)) := by
  have h := Lib.fresh_isBuilder 113 5 (w.alloc o)
  rwa [show (w.alloc o).heap.size = w.heap.size + 1 by simp] at h
theorem bel_hi {w U W : World} (h : Below w.heap.size w U) (k : Below (w.heap.size + 1) U W) : Below w.heap.size w W := h.trans (k.mono (Nat.le_succ _))
def PutP (e : Nat) (x : Val) (w : World) (en : Ending) (w' : World) : Prop := en = .returned (.string (keyB e x)) ∧ Below w.heap.size w w'
set_option maxRecDepth 100000 in
set_option maxHeartbeats 4000000 in
theorem put_null (e : Nat) (x : Val) (la : Option Addr) (ln lc : Nat) (fa : Option Addr) (fn fc : Nat) (w : World) (hk : x.kind = 0) :
    Calls Tryd.prog 37 #[.agg #[.int .i64 x.kind, .int .i64 x.int, .string x.text, .slice la ln lc, .slice fa fn fc]] w (PutP (e + 1) x w) := by
  have HO := Ap.of (show keyB (e + 1) x = ⟨([1] : List UInt8).toArray⟩ by unfold keyB keyL; rw [hk]; rfl)
  unfold PutP
  generalize keyB (e + 1) x = out at *
  generalize x.int = xi at *
  generalize x.text = xt at *
  generalize x.kind = xk at *
  subst hk
  have hb0 := bel_step (bel_alloc w (.cells #[.int .i64 0, .int .i64 xi, .string xt, .slice la ln lc, .slice fa fn fc] 29)) (bel_alloc _ (.cells #[.pointer none, .slice none 0 0] 113))
  have HBV := Ap.of (blk_old (o' := .cells #[.pointer none, .slice none 0 0] 113) (blk_new (w := w) (k := w.heap.size) (o := .cells #[.int .i64 0, .int .i64 xi, .string xt, .slice la ln lc, .slice fa fn fc] 29) rfl))
  have HS0 := Ap.of (show w.heap.size + 1 ≤ ((w.alloc (.cells #[.int .i64 0, .int .i64 xi, .string xt, .slice la ln lc, .slice fa fn fc] 29)).alloc (.cells #[.pointer none, .slice none 0 0] 113)).heap.size by simp)
  have HI0 := Ap.of (bld_new w (.cells #[.int .i64 0, .int .i64 xi, .string xt, .slice la ln lc, .slice fa fn fc] 29))
  have HB0 := Ap.of hb0
  have HW1 := Ap.of (show Calls Tryd.prog 55 #[.pointer (some ⟨w.heap.size + 1, 0, none⟩), .int .u8 1] _ _ from wbyte _ _ [] 1 _ HI0.out (by decide) HS0.out)
  clear hb0
  go_enter Tryd.func37, Tryd.ntmps37
  go_wp2_with fail
  refine HW1.out.mono ?_
  rintro en w1 ⟨rfl, hi1, hb1⟩
  have HI1 := Ap.of hi1
  have HS1 := Ap.of (Nat.le_trans HS0.out hb1.size)
  have HB1 := Ap.of (bel_hi HB0.out hb1)
  have hbv := blk_belB HBV.out hb1 (Nat.lt_succ_self _)
  have HBV1 := Ap.of hbv
  have cv := blk_cells hbv
  have lv := blk_lt hbv
  clear hi1 hb1 hbv HW1
  go_wp2_with fail
  refine (wdone _ _ _ _ HI1.out HS1.out).mono ?_
  rintro en w9 ⟨rfl, hb9⟩
  have HB9 := Ap.of (bel_hi HB1.out hb9)
  clear hb9
  go_wp2_with fail
  go_ret
  exact ⟨by rw [HO.out]; rfl, HB9.out⟩
set_option maxRecDepth 100000 in
set_option maxHeartbeats 4000000 in
theorem put_bool (e : Nat) (x : Val) (la : Option Addr) (ln lc : Nat) (fa : Option Addr) (fn fc : Nat) (w : World) (hk : x.kind = 1) (hi : x.int = 0 ∨ x.int = 1) :
    Calls Tryd.prog 37 #[.agg #[.int .i64 x.kind, .int .i64 x.int, .string x.text, .slice la ln lc, .slice fa fn fc]] w (PutP (e + 1) x w) := by
  rcases hi with hi | hi
  · have HO := Ap.of (show keyB (e + 1) x = ⟨([2, 0] : List UInt8).toArray⟩ by unfold keyB keyL; rw [hk, hi]; rfl)
    unfold PutP
    generalize keyB (e + 1) x = out at *
    generalize x.int = xi at *
    generalize x.text = xt at *
    generalize x.kind = xk at *
    subst hk
    subst hi
    have hb0 := bel_step (bel_alloc w (.cells #[.int .i64 1, .int .i64 0, .string xt, .slice la ln lc, .slice fa fn fc] 29)) (bel_alloc _ (.cells #[.pointer none, .slice none 0 0] 113))
    have HBV := Ap.of (blk_old (o' := .cells #[.pointer none, .slice none 0 0] 113) (blk_new (w := w) (k := w.heap.size) (o := .cells #[.int .i64 1, .int .i64 0, .string xt, .slice la ln lc, .slice fa fn fc] 29) rfl))
    have HS0 := Ap.of (show w.heap.size + 1 ≤ ((w.alloc (.cells #[.int .i64 1, .int .i64 0, .string xt, .slice la ln lc, .slice fa fn fc] 29)).alloc (.cells #[.pointer none, .slice none 0 0] 113)).heap.size by simp)
    have HI0 := Ap.of (bld_new w (.cells #[.int .i64 1, .int .i64 0, .string xt, .slice la ln lc, .slice fa fn fc] 29))
    have HB0 := Ap.of hb0
    have HW1 := Ap.of (show Calls Tryd.prog 55 #[.pointer (some ⟨w.heap.size + 1, 0, none⟩), .int .u8 2] _ _ from wbyte _ _ [] 2 _ HI0.out (by decide) HS0.out)
    clear hb0
    go_enter Tryd.func37, Tryd.ntmps37
    go_wp2_with fail
    refine HW1.out.mono ?_
    rintro en w1 ⟨rfl, hi1, hb1⟩
    have HI1 := Ap.of hi1
    have HS1 := Ap.of (Nat.le_trans HS0.out hb1.size)
    have HB1 := Ap.of (bel_hi HB0.out hb1)
    have hbv := blk_belB HBV.out hb1 (Nat.lt_succ_self _)
    have HBV1 := Ap.of hbv
    have cv := blk_cells hbv
    have lv := blk_lt hbv
    clear hi1 hb1 hbv HW1
    have HW2 := Ap.of (show Calls Tryd.prog 55 #[.pointer (some ⟨w.heap.size + 1, 0, none⟩), .int .u8 0] _ _ from wbyte _ _ _ 0 _ HI1.out (by decide) HS1.out)
    go_wp2_with fail
    refine HW2.out.mono ?_
    rintro en w2 ⟨rfl, hi2, hb2⟩
    have HI2 := Ap.of hi2
    have HS2 := Ap.of (Nat.le_trans HS1.out hb2.size)
    have HB2 := Ap.of (bel_hi HB1.out hb2)
    clear hi2 hb2 HW2
    go_wp2_with fail
    refine (wdone _ _ _ _ HI2.out HS2.out).mono ?_
    rintro en w9 ⟨rfl, hb9⟩
    have HB9 := Ap.of (bel_hi HB2.out hb9)
    clear hb9
    go_wp2_with fail
    go_ret
    exact ⟨by rw [HO.out]; rfl, HB9.out⟩
  · have HO := Ap.of (show keyB (e + 1) x = ⟨([2, 1] : List UInt8).toArray⟩ by unfold keyB keyL; rw [hk, hi]; rfl)
    unfold PutP
    generalize keyB (e + 1) x = out at *
    generalize x.int = xi at *
    generalize x.text = xt at *
    generalize x.kind = xk at *
    subst hk
    subst hi
    have hb0 := bel_step (bel_alloc w (.cells #[.int .i64 1, .int .i64 1, .string xt, .slice la ln lc, .slice fa fn fc] 29)) (bel_alloc _ (.cells #[.pointer none, .slice none 0 0] 113))
    have HBV := Ap.of (blk_old (o' := .cells #[.pointer none, .slice none 0 0] 113) (blk_new (w := w) (k := w.heap.size) (o := .cells #[.int .i64 1, .int .i64 1, .string xt, .slice la ln lc, .slice fa fn fc] 29) rfl))
    have HS0 := Ap.of (show w.heap.size + 1 ≤ ((w.alloc (.cells #[.int .i64 1, .int .i64 1, .string xt, .slice la ln lc, .slice fa fn fc] 29)).alloc (.cells #[.pointer none, .slice none 0 0] 113)).heap.size by simp)
    have HI0 := Ap.of (bld_new w (.cells #[.int .i64 1, .int .i64 1, .string xt, .slice la ln lc, .slice fa fn fc] 29))
    have HB0 := Ap.of hb0
    have HW1 := Ap.of (show Calls Tryd.prog 55 #[.pointer (some ⟨w.heap.size + 1, 0, none⟩), .int .u8 2] _ _ from wbyte _ _ [] 2 _ HI0.out (by decide) HS0.out)
    clear hb0
    go_enter Tryd.func37, Tryd.ntmps37
    go_wp2_with fail
    refine HW1.out.mono ?_
    rintro en w1 ⟨rfl, hi1, hb1⟩
    have HI1 := Ap.of hi1
    have HS1 := Ap.of (Nat.le_trans HS0.out hb1.size)
    have HB1 := Ap.of (bel_hi HB0.out hb1)
    have hbv := blk_belB HBV.out hb1 (Nat.lt_succ_self _)
    have HBV1 := Ap.of hbv
    have cv := blk_cells hbv
    have lv := blk_lt hbv
    clear hi1 hb1 hbv HW1
    have HW2 := Ap.of (show Calls Tryd.prog 55 #[.pointer (some ⟨w.heap.size + 1, 0, none⟩), .int .u8 1] _ _ from wbyte _ _ _ 1 _ HI1.out (by decide) HS1.out)
    go_wp2_with fail
    refine HW2.out.mono ?_
    rintro en w2 ⟨rfl, hi2, hb2⟩
    have HI2 := Ap.of hi2
    have HS2 := Ap.of (Nat.le_trans HS1.out hb2.size)
    have HB2 := Ap.of (bel_hi HB1.out hb2)
    clear hi2 hb2 HW2
    go_wp2_with fail
    refine (wdone _ _ _ _ HI2.out HS2.out).mono ?_
    rintro en w9 ⟨rfl, hb9⟩
    have HB9 := Ap.of (bel_hi HB2.out hb9)
    clear hb9
    go_wp2_with fail
    go_ret
    exact ⟨by rw [HO.out]; rfl, HB9.out⟩
set_option maxRecDepth 100000 in
set_option maxHeartbeats 4000000 in
theorem put_int (e : Nat) (x : Val) (la : Option Addr) (ln lc : Nat) (fa : Option Addr) (fn fc : Nat) (w : World) (hk : x.kind = 2) (hi : inI64 x.int) :
    Calls Tryd.prog 37 #[.agg #[.int .i64 x.kind, .int .i64 x.int, .string x.text, .slice la ln lc, .slice fa fn fc]] w (PutP (e + 1) x w) := by
  have HO := Ap.of (show keyB (e + 1) x = ⟨([3] ++ numL x.int : List UInt8).toArray⟩ by unfold keyB keyL; rw [hk]; rfl)
  have HLN := Ap.of (show ([3] : List UInt8).length + (numL x.int).length ≤ 100000000 by unfold numL; rw [be_len]; decide)
  unfold PutP
  generalize keyB (e + 1) x = out at *
  generalize x.int = xi at *
  generalize x.text = xt at *
  generalize x.kind = xk at *
  subst hk
  have hb0 := bel_step (bel_alloc w (.cells #[.int .i64 2, .int .i64 xi, .string xt, .slice la ln lc, .slice fa fn fc] 29)) (bel_alloc _ (.cells #[.pointer none, .slice none 0 0] 113))
  have HBV := Ap.of (blk_old (o' := .cells #[.pointer none, .slice none 0 0] 113) (blk_new (w := w) (k := w.heap.size) (o := .cells #[.int .i64 2, .int .i64 xi, .string xt, .slice la ln lc, .slice fa fn fc] 29) rfl))
  have HS0 := Ap.of (show w.heap.size + 1 ≤ ((w.alloc (.cells #[.int .i64 2, .int .i64 xi, .string xt, .slice la ln lc, .slice fa fn fc] 29)).alloc (.cells #[.pointer none, .slice none 0 0] 113)).heap.size by simp)
  have HI0 := Ap.of (bld_new w (.cells #[.int .i64 2, .int .i64 xi, .string xt, .slice la ln lc, .slice fa fn fc] 29))
  have HB0 := Ap.of hb0
  have HW1 := Ap.of (show Calls Tryd.prog 55 #[.pointer (some ⟨w.heap.size + 1, 0, none⟩), .int .u8 3] _ _ from wbyte _ _ [] 3 _ HI0.out (by decide) HS0.out)
  clear hb0
  go_enter Tryd.func37, Tryd.ntmps37
  go_wp2_with fail
  refine HW1.out.mono ?_
  rintro en w1 ⟨rfl, hi1, hb1⟩
  have HI1 := Ap.of hi1
  have HS1 := Ap.of (Nat.le_trans HS0.out hb1.size)
  have HB1 := Ap.of (bel_hi HB0.out hb1)
  have hbv := blk_belB HBV.out hb1 (Nat.lt_succ_self _)
  have HBV1 := Ap.of hbv
  have cv := blk_cells hbv
  have lv := blk_lt hbv
  clear hi1 hb1 hbv HW1
  go_wp2_with fail
  refine (number_calls xi w1 hi).mono ?_
  rintro en w2 ⟨rfl, hb2⟩
  have HI2 := Ap.of (isBuilder_below HI1.out hb2)
  have HS2 := Ap.of (Nat.le_trans HS1.out hb2.size)
  have HB2 := Ap.of (bel_step HB1.out hb2)
  clear hb2
  have HW3 := Ap.of (wstr _ _ _ (numL xi) w2 HI2.out HLN.out HS2.out)
  go_wp2_with fail
  refine HW3.out.mono ?_
  rintro en w3 ⟨⟨n3, rfl⟩, hi3, hb3⟩
  have HI3 := Ap.of hi3
  have HS3 := Ap.of (Nat.le_trans HS2.out hb3.size)
  have HB3 := Ap.of (bel_hi HB2.out hb3)
  clear hi3 hb3 HW3
  go_wp2_with fail
  refine (wdone _ _ _ _ HI3.out HS3.out).mono ?_
  rintro en w9 ⟨rfl, hb9⟩
  have HB9 := Ap.of (bel_hi HB3.out hb9)
  clear hb9
  go_wp2_with fail
  go_ret
  exact ⟨by rw [HO.out]; rfl, HB9.out⟩
set_option maxRecDepth 100000 in
set_option maxHeartbeats 4000000 in
theorem put_text (e : Nat) (x : Val) (la : Option Addr) (ln lc : Nat) (fa : Option Addr) (fn fc : Nat) (w : World) (hk : x.kind = 3) (hi : x.text.size ≤ 16) (G : ParG w) :
    Calls Tryd.prog 37 #[.agg #[.int .i64 x.kind, .int .i64 x.int, .string x.text, .slice la ln lc, .slice fa fn fc]] w (PutP (e + 1) x w) := by
  have HO := Ap.of (show keyB (e + 1) x = ⟨([4] ++ writtenL x.text.data.toList : List UInt8).toArray⟩ by unfold keyB keyL; rw [hk]; rfl)
  have HLN := Ap.of (show ([4] : List UInt8).length + (writtenL x.text.data.toList).length ≤ 100000000 by have := written_len x.text.data.toList; have h3 : x.text.data.toList.length = x.text.size := (by simp); have h4 : ([4] : List UInt8).length = 1 := rfl; omega)
  have GG := Ap.of G
  clear G
  unfold PutP
  generalize keyB (e + 1) x = out at *
  generalize x.int = xi at *
  generalize x.text = xt at *
  generalize x.kind = xk at *
  subst hk
  have hb0 := bel_step (bel_alloc w (.cells #[.int .i64 3, .int .i64 xi, .string xt, .slice la ln lc, .slice fa fn fc] 29)) (bel_alloc _ (.cells #[.pointer none, .slice none 0 0] 113))
  have HBV := Ap.of (blk_old (o' := .cells #[.pointer none, .slice none 0 0] 113) (blk_new (w := w) (k := w.heap.size) (o := .cells #[.int .i64 3, .int .i64 xi, .string xt, .slice la ln lc, .slice fa fn fc] 29) rfl))
  have HS0 := Ap.of (show w.heap.size + 1 ≤ ((w.alloc (.cells #[.int .i64 3, .int .i64 xi, .string xt, .slice la ln lc, .slice fa fn fc] 29)).alloc (.cells #[.pointer none, .slice none 0 0] 113)).heap.size by simp)
  have HI0 := Ap.of (bld_new w (.cells #[.int .i64 3, .int .i64 xi, .string xt, .slice la ln lc, .slice fa fn fc] 29))
  have HB0 := Ap.of hb0
  have HW1 := Ap.of (show Calls Tryd.prog 55 #[.pointer (some ⟨w.heap.size + 1, 0, none⟩), .int .u8 4] _ _ from wbyte _ _ [] 4 _ HI0.out (by decide) HS0.out)
  clear hb0
  go_enter Tryd.func37, Tryd.ntmps37
  go_wp2_with fail
  refine HW1.out.mono ?_
  rintro en w1 ⟨rfl, hi1, hb1⟩
  have HI1 := Ap.of hi1
  have HS1 := Ap.of (Nat.le_trans HS0.out hb1.size)
  have HB1 := Ap.of (bel_hi HB0.out hb1)
  have hbv := blk_belB HBV.out hb1 (Nat.lt_succ_self _)
  have HBV1 := Ap.of hbv
  have cv := blk_cells hbv
  have lv := blk_lt hbv
  clear hi1 hb1 hbv HW1
  go_wp2_with fail
  refine (written_calls xt hi w1 (GG.out.below HB1.out)).mono ?_
  rintro en w2 ⟨rfl, hb2⟩
  have HI2 := Ap.of (isBuilder_below HI1.out hb2)
  have HS2 := Ap.of (Nat.le_trans HS1.out hb2.size)
  have HB2 := Ap.of (bel_step HB1.out hb2)
  clear hb2
  have HW3 := Ap.of (wstr _ _ _ (writtenL xt.data.toList) w2 HI2.out HLN.out HS2.out)
  go_wp2_with fail
  refine HW3.out.mono ?_
  rintro en w3 ⟨⟨n3, rfl⟩, hi3, hb3⟩
  have HI3 := Ap.of hi3
  have HS3 := Ap.of (Nat.le_trans HS2.out hb3.size)
  have HB3 := Ap.of (bel_hi HB2.out hb3)
  clear hi3 hb3 HW3
  go_wp2_with fail
  refine (wdone _ _ _ _ HI3.out HS3.out).mono ?_
  rintro en w9 ⟨rfl, hb9⟩
  have HB9 := Ap.of (bel_hi HB3.out hb9)
  clear hb9
  go_wp2_with fail
  go_ret
  exact ⟨by rw [HO.out]; rfl, HB9.out⟩
end Go.Proofs.YtlomieopppndeaaDoor
