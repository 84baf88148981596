/- roundelaylaw06's own finding: at, Find; Way. -/
import Derived.Test.YtlomieopppndeaaGreatDoorPathFind
import Derived.Test.YtlomieopppndeaaGreatDoorOpens
import Derived.Deep.QuietTactic
import Derived.BigQuiet
namespace Go.Proofs.YtlomieopppndeaaGreatDoor
open Go.RowKit

theorem findIdx_find {fs : List Fld} {k : Nat} {nm : ByteArray} {x : Val} {part : ByteArray} (hn : (fs.take k).findIdx? (fun f => decide (f.1 = part)) = none) (hx : fs[k]? = some (nm, x)) (he : nm = part) : fs.find? (fun f => decide (f.1 = part)) = some (nm, x) := by
  have hk : k < fs.length := (List.getElem?_eq_some_iff.1 hx).1
  rw [List.getElem?_eq_getElem hk] at hx
  injection hx with hx
  rw [← List.take_append_drop k fs, List.find?_append, List.find?_eq_none.2 (fun f hf => by have := List.findIdx?_eq_none_iff.1 hn f hf; simpa using this), List.drop_eq_getElem_cons hk, hx]
  simp [he]
theorem findIdx_next {fs : List Fld} {k : Nat} {nm : ByteArray} {x : Val} {part : ByteArray} (hn : (fs.take k).findIdx? (fun f => decide (f.1 = part)) = none) (hx : fs[k]? = some (nm, x)) (he : nm ≠ part) : (fs.take (k + 1)).findIdx? (fun f => decide (f.1 = part)) = none := by
  have hk : k < fs.length := (List.getElem?_eq_some_iff.1 hx).1
  rw [List.getElem?_eq_getElem hk] at hx
  injection hx with hx
  rw [List.take_succ_eq_append_getElem hk, List.findIdx?_append, hn, hx]
  simp [he]
theorem placeOf_at {n k : Nat} {part : ByteArray} (hn10 : n ≤ 10) (hk : k < n) (he : part = digitB k) : placeOf n part = some k := by
  unfold placeOf
  rw [List.find?_range_eq_some]
  refine ⟨by simpa using he, by simpa using hk, fun j hj => ?_⟩
  have : part ≠ digitB j := fun e => by have := digitB_ne (by omega) (by omega) (he.symm.trans e); omega
  simpa using this
theorem placeOf_no {n : Nat} {part : ByteArray} (h : ∀ k, k < n → part ≠ digitB k) : placeOf n part = none := by
  unfold placeOf
  rw [List.find?_eq_none]
  intro k hk
  simpa using h k (by simpa using hk)
def tenB : ByteArray := ⟨#[48, 49, 50, 51, 52, 53, 54, 55, 56, 57]⟩
theorem ten_cut : ∀ k : Nat, k < 10 → tenB.extract k (k + 1) = digitB k := by decide +kernel
theorem ten_slice (k : Nat) (h : k < 10) (W : World) : (Instr.slice 9 (.string ⟨#[48, 49, 50, 51, 52, 53, 54, 55, 56, 57]⟩) (some (.int .i64 (k : Int))) (some (.int .i64 ((k : Int) + 1))) none).run Tryz.prog W = .ok (.string (digitB k)) W := by
  have e : ((k : Int) + 1).toNat = k + 1 := by omega
  rw [← ten_cut k h]
  show (Instr.slice 9 (.string tenB) (some (.int .i64 (k : Int))) (some (.int .i64 ((k : Int) + 1))) none).run Tryz.prog W = _
  have hz : tenB.size = 10 := rfl
  generalize tenB = t at *
  simp [Instr.slice, Instr.sliceBounds, go_sem, run_underlying Tryz.underlying9]
  intro hx
  exfalso
  have := hx (by omega)
  omega

set_option maxRecDepth 100000 in
set_option maxHeartbeats 2000000 in
theorem lat_calls (d : Nat) (x : Val) (la : Option Addr) (ln lc : Nat) (fa : Option Addr) (fn fc : Nat) (part : ByteArray) (ok : Nat → Prop) (w : World) (hn : x.list.length ≤ 10) (h : (KV (d + 2)).R w ok x [.int .i64 x.kind, .int .i64 x.int, .string x.text, .slice la ln lc, .slice fa fn fc]) :
    Calls Tryz.prog 43 #[.agg #[.int .i64 x.kind, .int .i64 x.int, .string x.text, .slice la ln lc, .slice fa fn fc], .string part] w (FoundP (d + 1) w ok (x.step part)) := by
  have hl := (KV_parts h).2.2.2.1
  have hf := (KV_parts h).2.2.2.2
  have hll := hl.length
  have hfl := hf.length
  have hlc := hl.cap
  have hfc := hf.cap
  have H := Ap.of ((KV (d + 2)).bound h)
  have HL := Ap.of hl.bound
  have HF := Ap.of hf.bound
  clear h hl hf
  by_cases h5 : x.kind = 5
  · have hst : x.step part = (x.fields.find? (fun f => decide (f.1 = part))).map Prod.snd := by
      unfold Val.step Val.get
      rw [if_neg (by omega), if_pos h5]
    rw [hst, h5]
    clear hst h5 hll hn
    generalize hi : x.int = i at *
    generalize ht : x.text = s at *
    go_enter Tryz.func43, Tryz.ntmps43
    go_wp2_with fail
    go_loopw [16] (fun vi wr => ∃ k : Nat, k ≤ fn ∧ vi = .int .i64 k ∧ Ap ((x.fields.take k).findIdx? (fun f => decide (f.1 = part)) = none) ∧
      Ap (wr.heap[w.heap.size]? = some (.cells #[.int .i64 5, .int .i64 i, .string s, .slice la ln lc, .slice fa fn fc] 28 (0, 0))) ∧
      Ap (wr.heap[w.heap.size + 1]? = some (.cells #[.int .i64 0, .int .i64 0, .string ⟨#[]⟩, .slice none 0 0, .slice none 0 0] 28 (0, 0))) ∧ Ap (Below w.heap.size w wr)) (fun vi _ => fn - (intOf vi).toNat)
    case atStart => exact ⟨0, Nat.zero_le _, rfl, Ap.of (by simp), Ap.of (blk_old (blk_new rfl)), Ap.of (blk_new (by simp)), Ap.of (bel_step (bel_alloc _ _) (bel_alloc _ _))⟩
    case round =>
      obtain ⟨k, hk, rfl, HN, B0, B1, BL⟩ := hrel
      have c1 := blk_cells B1.out
      have f1 := blk_free B1.out
      have l1 := blk_lt B1.out
      by_cases hlt : k < fn
      · obtain ⟨g2, off, nm, y, la2, xn, lc2, fa2, fn2, fc2, rfl, hx, hnm, hr, e0, e1, e2, e3, e4, e5⟩ := fld_cells (HF.out.below BL.out) hlt
        have HX := Ap.of hx
        have HR := Ap.of hr
        have hbeq := beq_toList nm part
        have l2 := World.block_lt_of_cell? wr _ e0
        clear hx hr hnm
        cases hd : decide (nm = part) with
        | true =>
          rw [hd] at hbeq
          have HD := Ap.of (of_decide_eq_true hd)
          clear hd
          go_wp2_with fail
          rw [findIdx_find HN.out HX.out HD.out]
          have hs := (only5 wr (w.heap.size + 1) (.int .i64 y.kind) (.int .i64 y.int) (.string y.text) (.slice la2 xn lc2) (.slice fa2 fn2 fc2)).alloc (.cells #[.string nm, .int .i64 y.kind, .int .i64 y.int, .string y.text, .slice la2 xn lc2, .slice fa2 fn2 fc2] 37)
          exact bodyPost_ret (v := .tuple #[.agg #[.int .i64 y.kind, .int .i64 y.int, .string y.text, .slice la2 xn lc2, .slice fa2 fn2 fc2], .bool true]) (by simp [results, Tryz.results43, go_sem, c1, l1]) rfl
            ⟨y, la2, xn, lc2, fa2, fn2, fc2, rfl, rfl, (KV (d + 1)).mono (fun j hj => hj.1) (Knd.only HR.out hs (fun j hj he => by have := hj.2; omega)), bel_only BL.out BL.out.size hs (fun j he => by omega)⟩
        | false =>
          rw [hd] at hbeq
          have HD := Ap.of (of_decide_eq_false hd)
          clear hd
          go_wp2_with fail
          go_roundw
          case rel => exact ⟨k + 1, by omega, by go_num, Ap.of (findIdx_next HN.out HX.out HD.out), Ap.of (blk_old B0.out), Ap.of (blk_old B1.out), Ap.of (bel_stepB BL.out BL.out.size (bel_alloc _ _))⟩
          case measure => simp [intOf]; omega
      · obtain rfl : k = fn := by omega
        have c0 := blk_cells B0.out
        have l0 := blk_lt B0.out
        have hno : x.fields.find? (fun f => decide (f.1 = part)) = none := by
          have := HN.out
          rw [← hfl, List.take_length] at this
          rw [List.find?_eq_none]
          intro f hfm
          have := List.findIdx?_eq_none_iff.1 this f hfm
          simpa using this
        have HNO := Ap.of hno
        clear HN hno
        go_wp2_with fail
        rw [HNO.out]
        have hs := only5 wr (w.heap.size + 1) (.int .i64 0) (.int .i64 0) (.string ⟨#[]⟩) (.slice none 0 0) (.slice none 0 0)
        exact bodyPost_ret (v := .tuple #[.agg #[.int .i64 0, .int .i64 0, .string ⟨#[]⟩, .slice none 0 0, .slice none 0 0], .bool false]) (by simp [results, Tryz.results43, go_sem, c1]) rfl
          ⟨Val.zero, none, 0, 0, none, 0, 0, rfl, rfl, KV_zero _ _ _, bel_only BL.out BL.out.size hs (fun j he => by omega)⟩
  · have h5' : (x.kind == 5) = false := by simpa using h5
    by_cases h4 : x.kind = 4
    · have hst : x.step part = (placeOf ln part).bind (x.list[·]?) := by rw [← hll]; exact if_pos h4
      rw [hst, h4]
      rw [hll] at hn
      clear hst h5 h5' hfl h4
      generalize hi : x.int = i at *
      generalize ht : x.text = s at *
      go_enter Tryz.func43, Tryz.ntmps43
      go_wp2_with fail
      go_loopw [33] (fun vi wr => ∃ k : Nat, k ≤ ln ∧ vi = .int .i64 k ∧ Ap (∀ j, j < k → part ≠ digitB j) ∧
        Ap (wr.heap[w.heap.size + 1]? = some (.cells #[.int .i64 0, .int .i64 0, .string ⟨#[]⟩, .slice none 0 0, .slice none 0 0] 28 (0, 0))) ∧ Ap (Below w.heap.size w wr)) (fun vi _ => ln - (intOf vi).toNat)
      case atStart => exact ⟨0, Nat.zero_le _, rfl, Ap.of (fun j hj => by omega), Ap.of (blk_new (by simp)), Ap.of (bel_step (bel_alloc _ _) (bel_alloc _ _))⟩
      case round =>
        obtain ⟨k, hk, rfl, HN, B1, BL⟩ := hrel
        have c1 := blk_cells B1.out
        have f1 := blk_free B1.out
        have l1 := blk_lt B1.out
        by_cases hlt : k < ln
        · obtain ⟨g2, off, y, la2, xn, lc2, fa2, fn2, fc2, rfl, hx, hr, e1, e2, e3, e4, e5⟩ := val_cells (HL.out.below BL.out) hlt
          have HX := Ap.of hx
          have HR := Ap.of hr
          have hten := ten_slice k (by omega)
          have hbeq := beq_toList part (digitB k)
          have hplace : part = digitB k → placeOf ln part = some k := fun e => placeOf_at (by omega) hlt e
          have HPL := Ap.of hplace
          have l2 := World.block_lt_of_cell? wr _ e1
          clear hx hr hplace
          generalize hq : digitB k = q at *
          have HQ := Ap.of hq
          clear hq
          cases hd : decide (part = q) with
          | true =>
            rw [hd] at hbeq
            have HD := Ap.of (of_decide_eq_true hd)
            clear hd
            go_wp2_with fail
            have hs := (only5 wr (w.heap.size + 1) (.int .i64 y.kind) (.int .i64 y.int) (.string y.text) (.slice la2 xn lc2) (.slice fa2 fn2 fc2)).alloc (.cells #[.int .i64 y.kind, .int .i64 y.int, .string y.text, .slice la2 xn lc2, .slice fa2 fn2 fc2] 28)
            have hres : (placeOf ln part).bind (x.list[·]?) = some y := by rw [HPL.out HD.out]; exact HX.out
            rw [hres]
            exact bodyPost_ret (v := .tuple #[.agg #[.int .i64 y.kind, .int .i64 y.int, .string y.text, .slice la2 xn lc2, .slice fa2 fn2 fc2], .bool true]) (by simp [results, Tryz.results43, go_sem, c1, l1]) rfl
              ⟨y, la2, xn, lc2, fa2, fn2, fc2, rfl, rfl, (KV (d + 1)).mono (fun j hj => hj.1) (Knd.only HR.out hs (fun j hj he => by have := hj.2; omega)), bel_only BL.out BL.out.size hs (fun j he => by omega)⟩
          | false =>
            rw [hd] at hbeq
            have HD := Ap.of (of_decide_eq_false hd)
            clear hd
            go_wp2_with fail
            go_roundw
            case rel => exact ⟨k + 1, by omega, by go_num, Ap.of (fun j hj => by
              rcases Nat.lt_or_ge j k with h | h
              · exact HN.out j h
              · obtain rfl : j = k := by omega
                rw [HQ.out]; exact HD.out), Ap.of (blk_old B1.out), Ap.of (bel_stepB BL.out BL.out.size (bel_alloc _ _))⟩
            case measure => simp [intOf]; omega
        · obtain rfl : k = ln := by omega
          have hno : placeOf k part = none := placeOf_no HN.out
          have HNO := Ap.of hno
          clear HN hno
          go_wp2_with fail
          rw [HNO.out]
          have hs := only5 wr (w.heap.size + 1) (.int .i64 0) (.int .i64 0) (.string ⟨#[]⟩) (.slice none 0 0) (.slice none 0 0)
          exact bodyPost_ret (v := .tuple #[.agg #[.int .i64 0, .int .i64 0, .string ⟨#[]⟩, .slice none 0 0, .slice none 0 0], .bool false]) (by simp [results, Tryz.results43, go_sem, c1]) rfl
            ⟨Val.zero, none, 0, 0, none, 0, 0, rfl, rfl, KV_zero _ _ _, bel_only BL.out BL.out.size hs (fun j he => by omega)⟩
    · have hst : x.step part = none := by
        unfold Val.step Val.get
        rw [if_neg h4, if_neg h5]
      have h4' : (x.kind == 4) = false := by simpa using h4
      rw [hst]
      clear hst h4 h5 hll hfl
      generalize x.int = i at *
      generalize x.text = s at *
      generalize x.kind = kd at *
      go_enter Tryz.func43, Tryz.ntmps43
      go_wp2_with fail
      have hs := only5 ((w.alloc (.cells #[.int .i64 kd, .int .i64 i, .string s, .slice la ln lc, .slice fa fn fc] 28)).alloc (.cells #[.int .i64 0, .int .i64 0, .string ⟨#[]⟩, .slice none 0 0, .slice none 0 0] 28)) (w.heap.size + 1) (.int .i64 0) (.int .i64 0) (.string ⟨#[]⟩) (.slice none 0 0) (.slice none 0 0)
      have hba := bel_step (bel_alloc w (.cells #[.int .i64 kd, .int .i64 i, .string s, .slice la ln lc, .slice fa fn fc] 28)) (bel_alloc _ (.cells #[.int .i64 0, .int .i64 0, .string ⟨#[]⟩, .slice none 0 0, .slice none 0 0] 28))
      exact bodyPost_ret (v := .tuple #[.agg #[.int .i64 0, .int .i64 0, .string ⟨#[]⟩, .slice none 0 0, .slice none 0 0], .bool false]) (by simp [results, Tryz.results43, go_sem]) rfl
        ⟨Val.zero, none, 0, 0, none, 0, 0, rfl, rfl, KV_zero _ _ _, hba⟩

set_option maxRecDepth 100000 in
set_option maxHeartbeats 2000000 in
theorem lfind_calls (d : Nat) (x : Val) (la : Option Addr) (ln lc : Nat) (fa : Option Addr) (fn fc : Nat) (A : Option Addr) (n c : Nat) (l : List ByteArray) (ok : Nat → Prop) (w : World) {N : Nat} (hF : Few N x) (hl : Row KStr w ok A n c l) (h : (KV (d + 2)).R w ok x [.int .i64 x.kind, .int .i64 x.int, .string x.text, .slice la ln lc, .slice fa fn fc]) :
    Calls Tryz.prog 19 #[.agg #[.int .i64 x.kind, .int .i64 x.int, .string x.text, .slice la ln lc, .slice fa fn fc], .slice A n c] w (FoundP (d + 2) w ok (x.find l)) := by
  have H := Ap.of ((KV (d + 2)).bound h)
  have HL := Ap.of hl.bound
  have HF := Ap.of hF
  have hll := hl.length
  have hcap := hl.cap
  clear h hl hF
  generalize hi : x.int = i0 at *
  generalize ht : x.text = s0 at *
  generalize hkd : x.kind = k0 at *
  go_enter Tryz.func19, Tryz.ntmps19
  go_wp2_with fail
  go_loopw [12] (fun vi wr => ∃ (k : Nat) (y : Val) (la : Option Addr) (ln lc : Nat) (fa : Option Addr) (fn fc : Nat), k ≤ n ∧ vi = .int .i64 k ∧ Ap (x.find l = y.find (l.drop k)) ∧ Ap (Few N y) ∧
    Ap (wr.heap[w.heap.size]? = some (.cells #[.int .i64 y.kind, .int .i64 y.int, .string y.text, .slice la ln lc, .slice fa fn fc] 28 (0, 0))) ∧
    Ap (wr.heap[w.heap.size + 1]? = some (.cells #[.int .i64 0, .int .i64 0, .string ⟨#[]⟩, .slice none 0 0, .slice none 0 0] 28 (0, 0))) ∧
    Ap ((KV (d + 2)).R wr (fun j => ok j ∧ j < w.heap.size) y [.int .i64 y.kind, .int .i64 y.int, .string y.text, .slice la ln lc, .slice fa fn fc]) ∧ Ap (Below w.heap.size w wr)) (fun vi _ => n - (intOf vi).toNat)
  case atStart =>
    subst hi ht hkd
    exact ⟨0, x, la, ln, lc, fa, fn, fc, Nat.zero_le _, rfl, Ap.of rfl, HF, Ap.of (blk_old (blk_new rfl)), Ap.of (blk_new (by simp)), Ap.of (Knd.below (Knd.below H.out (bel_alloc _ _)) (bel_alloc _ _)), Ap.of (bel_step (bel_alloc _ _) (bel_alloc _ _))⟩
  case round =>
    obtain ⟨k, y, ya, yn, yc, za, zn, zc, hk, rfl, HX, FY, B0, B1, RY, BL⟩ := hrel
    clear H hi ht hkd
    have c0 := blk_cells B0.out
    have f0 := blk_free B0.out
    have l0 := blk_lt B0.out
    have c1 := blk_cells B1.out
    have f1 := blk_free B1.out
    have l1 := blk_lt B1.out
    by_cases hlt : k < n
    · obtain ⟨g2, off, p, rfl, hp, hps, hpc⟩ := str_cells (HL.out.below BL.out) hlt
      have hfd : x.find l = (y.step p).bind (·.find (l.drop (k + 1))) := by
        rw [HX.out]
        have hkl : k < l.length := by omega
        rw [List.drop_eq_getElem_cons hkl]
        rw [List.getElem?_eq_getElem hkl] at hp
        injection hp with hp
        rw [hp]
        rfl
      have HFD := Ap.of hfd
      have hcall := lat_calls d y ya yn yc za zn zc p (fun j => ok j ∧ j < w.heap.size) wr FY.out.len RY.out
      have hfew : ∀ z, y.step p = some z → Few N z := fun z hz => FY.out.step hz
      have HFW := Ap.of hfew
      clear hfd hfew hp hps HX RY
      generalize y.step p = o at *
      have HC := Ap.of hcall
      clear hcall
      generalize y.int = i1 at *
      generalize y.text = s1 at *
      generalize y.kind = k1 at *
      cases o with
      | none =>
        go_wp2_with fail
        refine HC.out.mono ?_
        rintro e w3 ⟨z, la2, xn, lc2, fa2, fn2, fc2, rfl, hz, hr, hb⟩
        obtain rfl : z = Val.zero := hz
        have b1 := blk_bel B1.out hb
        have d1 := blk_cells b1
        have g1 := blk_free b1
        have m1 := blk_lt b1
        have HBL := Ap.of (bel_stepB BL.out BL.out.size hb)
        clear hr hb b1 hpc c0 f0 c1 f1 l0 l1
        go_wp2_with fail
        rw [HFD.out]
        have hs := (only5 w3 (w.heap.size + 1) (.int .i64 0) (.int .i64 0) (.string ⟨#[]⟩) (.slice none 0 0) (.slice none 0 0)).alloc (.cells #[.int .i64 Val.zero.kind, .int .i64 Val.zero.int, .string Val.zero.text, .slice la2 xn lc2, .slice fa2 fn2 fc2] 28)
        exact bodyPost_ret (v := .tuple #[.agg #[.int .i64 0, .int .i64 0, .string ⟨#[]⟩, .slice none 0 0, .slice none 0 0], .bool false]) (by simp [results, Tryz.results19, go_sem, d1, m1]) rfl
          ⟨Val.zero, none, 0, 0, none, 0, 0, rfl, rfl, KV_zero _ _ _, bel_only HBL.out HBL.out.size hs (fun j he => by omega)⟩
      | some y2 =>
        go_wp2_with fail
        refine HC.out.mono ?_
        rintro e w3 ⟨z, la2, xn, lc2, fa2, fn2, fc2, rfl, hz, hr, hb⟩
        obtain rfl : z = y2 := hz
        have b0 := blk_bel B0.out hb
        have b1 := blk_bel B1.out hb
        have d0 := blk_cells b0
        have g0 := blk_free b0
        have d1 := blk_cells b1
        have g1 := blk_free b1
        have m0 := blk_lt b0
        have m1 := blk_lt b1
        have HBL := Ap.of (bel_stepB BL.out BL.out.size hb)
        have HR := Ap.of hr
        have HB0 := Ap.of b0
        have HB1 := Ap.of b1
        clear hr hb b0 b1 hpc c0 f0 c1 f1 l0 l1
        go_wp2_with fail
        go_roundw
        case rel =>
          have hs0 := only5 w3 w.heap.size (.int .i64 z.kind) (.int .i64 z.int) (.string z.text) (.slice la2 xn lc2) (.slice fa2 fn2 fc2)
          have hs := hs0.alloc (.cells #[.int .i64 z.kind, .int .i64 z.int, .string z.text, .slice la2 xn lc2, .slice fa2 fn2 fc2] 28)
          exact ⟨k + 1, z, la2, xn, lc2, fa2, fn2, fc2, by omega, by go_num, Ap.of HFD.out, Ap.of (HFW.out z rfl), Ap.of (blk_old (blk_set5 HB0.out _ _ _ _ _)), Ap.of (blk_only HB1.out hs (by omega)),
            Ap.of (KV_deeper _ _ _ _ _ (Knd.only HR.out hs (fun j hj he => by have := hj.2; omega))), Ap.of (bel_only HBL.out HBL.out.size hs (fun j he => by omega))⟩
        case measure => simp [intOf]; omega
    · obtain rfl : k = n := by omega
      have hfd : x.find l = some y := by
        rw [HX.out, ← hll, List.drop_length]; rfl
      have HFD := Ap.of hfd
      clear hfd HX
      go_wp2_with fail
      rw [HFD.out]
      have hs := only5 wr (w.heap.size + 1) (.int .i64 y.kind) (.int .i64 y.int) (.string y.text) (.slice ya yn yc) (.slice za zn zc)
      exact bodyPost_ret (v := .tuple #[.agg #[.int .i64 y.kind, .int .i64 y.int, .string y.text, .slice ya yn yc, .slice za zn zc], .bool true]) (by simp [results, Tryz.results19, go_sem, c1]) rfl
        ⟨y, ya, yn, yc, za, zn, zc, rfl, rfl, (KV (d + 2)).mono (fun j hj => hj.1) (Knd.only RY.out hs (fun j hj he => by have := hj.2; omega)), bel_only BL.out BL.out.size hs (fun j he => by omega)⟩

end Go.Proofs.YtlomieopppndeaaGreatDoor
