/- roundelaylaw16.wrong, oneWrong: what is wrong with a filter of bytes: what filter.Parse tells. -/
import Derived.Test.YtlomieopppndeaaGreatDoorDocLaw
import Derived.Test.YtlomieopppndeaaGreatDoorTst16
namespace Go.Proofs.YtlomieopppndeaaGreatDoor
open Go.RowKit

/-- A code, which tells how reading ends. -/
def WrP (res : Except Int Flt) (w : World) (e : Ending) (w' : World) : Prop :=
  ∃ r : Int, e = .returned (.int .i64 r) ∧ ((r = 0 ∧ ∃ s, res = .ok s) ∨ (r ≠ 0 ∧ res = .error r)) ∧ Below w.heap.size w w'
set_option maxRecDepth 100000 in
set_option maxHeartbeats 4000000 in
theorem wrong_any (D : Nat) (v : Val) (la : Option Addr) (ln lc : Nat) (fa : Option Addr) (fn fc : Nat) (ok : Nat → Prop) (w : World) (one : Fld → Except Int Flt) (h5 : v.kind = 5) (hv : (KV (D + 2)).R w ok v [.int .i64 v.kind, .int .i64 v.int, .string v.text, .slice la ln lc, .slice fa fn fc])
    (hone : ∀ (nm : ByteArray) (y : Val) (la2 : Option Addr) (ln2 lc2 : Nat) (fa2 : Option Addr) (fn2 fc2 : Nat) (W : World), Below w.heap.size w W → (nm, y) ∈ v.fields → (KV (D + 1)).R W ok y [.int .i64 y.kind, .int .i64 y.int, .string y.text, .slice la2 ln2 lc2, .slice fa2 fn2 fc2] → Calls Tryz.prog 58 #[.agg #[.string nm, .int .i64 y.kind, .int .i64 y.int, .string y.text, .slice la2 ln2 lc2, .slice fa2 fn2 fc2]] W (WrP (one (nm, y)) W)) :
    Calls Tryz.prog 29 #[.agg #[.int .i64 v.kind, .int .i64 v.int, .string v.text, .slice la ln lc, .slice fa fn fc]] w (WrP (parseE one v) w) := by
  have hf := (KV_parts hv).2.2.2.2
  have hlen := hf.length
  have hcap := hf.cap
  have hres : parseE one v = match mapE one v.fields with
    | .error e => .error e
    | .ok ss => .ok (.mk 0 ⟨#[]⟩ Val.zero ss) := by
    show (if v.kind ≠ 5 then _ else _) = _
    rw [if_neg (by simp [h5])]; rfl
  have HRS := Ap.of hres
  have H := Ap.of hf
  have HLN := Ap.of hlen
  have HONE := Ap.of hone
  clear hres hf hlen hone hv
  generalize parseE one v = res at *
  generalize v.fields = xs at *
  generalize v.int = vi at *
  generalize v.text = vt at *
  generalize v.kind = vk at *
  subst h5
  go_enter Tryz.func29, Tryz.ntmps29
  go_wp2_with fail
  go_loopw [12] (fun vi wr => ∃ (k : Nat) (ss : List Flt), k ≤ fn ∧ vi = .int .i64 k ∧ Ap (mapE one (xs.take k) = .ok ss) ∧ Ap (Below w.heap.size w wr)) (fun vi _ => fn - (intOf vi).toNat)
  case atStart => exact ⟨0, [], Nat.zero_le _, rfl, Ap.of (by simp [mapE]), Ap.of (bel_alloc _ _)⟩
  case round =>
    obtain ⟨k, ss, hk, rfl, HM, BL⟩ := hrel
    by_cases hlt : k < fn
    · obtain ⟨g2, off, nm, y, la2, xn, lc2, fa2, fn2, fc2, rfl, hx, hnm, hr, c0, c1, c2, c3, c4, c5⟩ := fld_cells (Row.below H.out BL.out) hlt
      have HX := Ap.of hx
      have hcall := HONE.out nm y la2 xn lc2 fa2 fn2 fc2 (wr.alloc (.cells #[.string nm, .int .i64 y.kind, .int .i64 y.int, .string y.text, .slice la2 xn lc2, .slice fa2 fn2 fc2] 37)) (bel_stepB BL.out BL.out.size (bel_alloc _ _)) (List.mem_of_getElem? hx) (Knd.below hr (bel_alloc _ _))
      have HC := Ap.of hcall
      have HLT := Ap.of hlt
      have hlt' : (k : Int) < (fn : Int) := by omega
      have lc0 := World.block_lt_of_cell? _ _ c0
      clear hx hr hcall hnm
      go_wp2_with fail
      refine HC.out.mono ?_
      rintro e w3 ⟨r, rfl, hd, hb⟩
      have HB := Ap.of (bel_stepB BL.out BL.out.size (bel_step (bel_alloc wr (.cells #[.string nm, .int .i64 y.kind, .int .i64 y.int, .string y.text, .slice la2 xn lc2, .slice fa2 fn2 fc2] 37)) hb))
      clear hb
      rcases hd with ⟨rfl, s, hs⟩ | ⟨hr0, he⟩
      · have HS := Ap.of hs
        clear hs
        go_wp2_with fail
        go_roundw
        case rel => exact ⟨k + 1, ss ++ [s], by have := HLT.out; omega, by go_num, Ap.of (by
          have hx := HX.out
          have hkl : k < xs.length := (List.getElem?_eq_some_iff.1 hx).1
          rw [List.getElem?_eq_getElem hkl] at hx
          injection hx with hx
          rw [List.take_succ_eq_append_getElem hkl, hx]
          exact mapE_next HM.out HS.out), HB⟩
        case measure => have := HLT.out; simp [intOf]; omega
      · have HE := Ap.of he
        have t0 : (r == 0) = false := by simpa using hr0
        clear he
        go_wp2_with fail
        go_ret
        exact ⟨r, rfl, .inr ⟨hr0, by
          have hx := HX.out
          have hkl : k < xs.length := (List.getElem?_eq_some_iff.1 hx).1
          have hsplit : xs = xs.take k ++ (nm, y) :: xs.drop (k + 1) := by
            rw [List.getElem?_eq_getElem hkl] at hx
            injection hx with hx
            rw [← hx, ← List.drop_eq_getElem_cons hkl, List.take_append_drop]
          rw [HRS.out, hsplit, mapE_err _ HM.out HE.out]⟩, HB.out⟩
    · obtain rfl : k = fn := by omega
      have hlt' : ¬ (k : Int) < (k : Int) := by omega
      go_wp2_with fail
      go_ret
      exact ⟨0, rfl, .inl ⟨rfl, by
        have h := HM.out
        rw [← HLN.out, List.take_length] at h
        exact ⟨_, by rw [HRS.out, h]⟩⟩, BL.out⟩

set_option maxRecDepth 100000 in
set_option maxHeartbeats 4000000 in
theorem one_many (D : Nat) (nm : ByteArray) (y : Val) (la2 : Option Addr) (ln2 lc2 : Nat) (fa2 : Option Addr) (fn2 fc2 : Nat) (ok : Nat → Prop) (w : World) (one : Val → Except Int Flt) (op : Int) (hn : nm = ⟨#[36, 97, 110, 100]⟩ ∨ nm = ⟨#[36, 111, 114]⟩) (h4 : y.kind = 4) (hl : y.list ≠ []) (hy : (KV (D + 2)).R w ok y [.int .i64 y.kind, .int .i64 y.int, .string y.text, .slice la2 ln2 lc2, .slice fa2 fn2 fc2])
    (hone : ∀ (x : Val) (la : Option Addr) (ln lc : Nat) (fa : Option Addr) (fn fc : Nat) (W : World), Below w.heap.size w W → x ∈ y.list → (KV (D + 1)).R W ok x [.int .i64 x.kind, .int .i64 x.int, .string x.text, .slice la ln lc, .slice fa fn fc] → Calls Tryz.prog 29 #[.agg #[.int .i64 x.kind, .int .i64 x.int, .string x.text, .slice la ln lc, .slice fa fn fc]] W (WrP (one x) W)) :
    Calls Tryz.prog 58 #[.agg #[.string nm, .int .i64 y.kind, .int .i64 y.int, .string y.text, .slice la2 ln2 lc2, .slice fa2 fn2 fc2]] w (WrP (manyE op one y.list) w) := by
  have hr := (KV_parts hy).2.2.2.1
  have hlen := hr.length
  have hcap := hr.cap
  have hln : ln2 ≠ 0 := fun h => hl (List.length_eq_zero_iff.1 (hlen.trans h))
  have t0 : (ln2 == 0) = false := by simpa using hln
  have t0' : ((ln2 : Int) == 0) = false := by simpa using hln
  have hres : manyE op one y.list = match mapE one y.list with
    | .error e => .error e
    | .ok ss => .ok (.mk op ⟨#[]⟩ Val.zero ss) := rfl
  have HRS := Ap.of hres
  have H := Ap.of hr
  have HLN := Ap.of hlen
  have HONE := Ap.of hone
  clear hres hr hlen hone hy hl hln
  generalize manyE op one y.list = res at *
  generalize y.list = xs at *
  generalize y.int = yi at *
  generalize y.text = yt at *
  generalize y.kind = yk at *
  subst h4
  rcases hn with rfl | rfl
  all_goals
    go_enter Tryz.func58, Tryz.ntmps58
    go_wp2_with fail
    go_loopw [34] (fun vi wr => ∃ (k : Nat) (ss : List Flt), k ≤ ln2 ∧ vi = .int .i64 k ∧ Ap (mapE one (xs.take k) = .ok ss) ∧ Ap (Below w.heap.size w wr)) (fun vi _ => ln2 - (intOf vi).toNat)
    case atStart => exact ⟨0, [], Nat.zero_le _, rfl, Ap.of (by simp [mapE]), Ap.of (bel_alloc _ _)⟩
    case round =>
      obtain ⟨k, ss, hk, rfl, HM, BL⟩ := hrel
      by_cases hlt : k < ln2
      · obtain ⟨g2, off, x, la, xn, lc, fa, fn, fc, rfl, hx, hr, c0, c1, c2, c3, c4⟩ := val_cells (Row.below H.out BL.out) hlt
        have HX := Ap.of hx
        have hcall := HONE.out x la xn lc fa fn fc (wr.alloc (.cells #[.int .i64 x.kind, .int .i64 x.int, .string x.text, .slice la xn lc, .slice fa fn fc] 28)) (bel_stepB BL.out BL.out.size (bel_alloc _ _)) (List.mem_of_getElem? hx) (Knd.below hr (bel_alloc _ _))
        have HC := Ap.of hcall
        have HLT := Ap.of hlt
        have hlt' : (k : Int) < (ln2 : Int) := by omega
        have lc0 := World.block_lt_of_cell? _ _ c0
        clear hx hr hcall
        go_wp2_with fail
        refine HC.out.mono ?_
        rintro e w3 ⟨r, rfl, hd, hb⟩
        have HB := Ap.of (bel_stepB BL.out BL.out.size (bel_step (bel_alloc wr (.cells #[.int .i64 x.kind, .int .i64 x.int, .string x.text, .slice la xn lc, .slice fa fn fc] 28)) hb))
        clear hb
        rcases hd with ⟨rfl, s, hs⟩ | ⟨hr0, he⟩
        · have HS := Ap.of hs
          clear hs
          go_wp2_with fail
          go_roundw
          case rel => exact ⟨k + 1, ss ++ [s], by have := HLT.out; omega, by go_num, Ap.of (by
            have hx := HX.out
            have hkl : k < xs.length := (List.getElem?_eq_some_iff.1 hx).1
            rw [List.getElem?_eq_getElem hkl] at hx
            injection hx with hx
            rw [List.take_succ_eq_append_getElem hkl, hx]
            exact mapE_next HM.out HS.out), HB⟩
          case measure => have := HLT.out; simp [intOf]; omega
        · have HE := Ap.of he
          have tr : (r == 0) = false := by simpa using hr0
          clear he
          go_wp2_with fail
          go_ret
          exact ⟨r, rfl, .inr ⟨hr0, by
            have hx := HX.out
            have hkl : k < xs.length := (List.getElem?_eq_some_iff.1 hx).1
            have hsplit : xs = xs.take k ++ x :: xs.drop (k + 1) := by
              rw [List.getElem?_eq_getElem hkl] at hx
              injection hx with hx
              rw [← hx, ← List.drop_eq_getElem_cons hkl, List.take_append_drop]
            rw [HRS.out, hsplit, mapE_err _ HM.out HE.out]⟩, HB.out⟩
      · obtain rfl : k = ln2 := by omega
        have hlt' : ¬ (k : Int) < (k : Int) := by omega
        go_wp2_with fail
        go_ret
        exact ⟨0, rfl, .inl ⟨rfl, by
          have h := HM.out
          rw [← HLN.out, List.take_length] at h
          exact ⟨_, by rw [HRS.out, h]⟩⟩, BL.out⟩
/-- A name that begins with a sign and is no filter's: reading it fails. -/
theorem one_dollar_note : (8 : Int) ≠ 0 := by decide
set_option maxRecDepth 100000 in
set_option maxHeartbeats 4000000 in
theorem one_dollar (nm : ByteArray) (y : Val) (la2 : Option Addr) (ln2 lc2 : Nat) (fa2 : Option Addr) (fn2 fc2 : Nat) (w : World) (h1 : (nm.toList == [36, 97, 110, 100]) = false) (h2 : (nm.toList == [36, 111, 114]) = false) (h0 : (nm.toList == []) = false) (hix : ∀ w, (Instr.index 9 (.string nm) (.int .i64 0)).run Tryz.prog w = .ok (.int .u8 36) w) :
    Calls Tryz.prog 58 #[.agg #[.string nm, .int .i64 y.kind, .int .i64 y.int, .string y.text, .slice la2 ln2 lc2, .slice fa2 fn2 fc2]] w (WrP (.error 8) w) := by
  have p1 : ¬ nm.toList = [36, 97, 110, 100] := by simpa using h1
  have p2 : ¬ nm.toList = [36, 111, 114] := by simpa using h2
  have p0 : ¬ nm.toList = [] := by simpa using h0
  have q0 : nm.toList.isEmpty = false := by cases hq : nm.toList with
    | nil => exact (p0 hq).elim
    | cons a r => rfl
  generalize y.int = yi at *
  generalize y.text = yt at *
  generalize y.kind = yk at *
  go_enter Tryz.func58, Tryz.ntmps58
  go_wp2_with fail
  go_ret
  exact ⟨8, rfl, .inr ⟨by decide, rfl⟩, bel_alloc _ _⟩
end Go.Proofs.YtlomieopppndeaaGreatDoor
