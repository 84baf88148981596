/- roundelaylaw16.parts: a path's parts. -/
import Derived.Test.YtlomieopppndeaaGreatDoorDocLaw
import Derived.Test.YtlomieopppndeaaGreatDoorLCmp
import Derived.Test.YtlomieopppndeaaGreatDoorWay
namespace Go.Proofs.YtlomieopppndeaaGreatDoor
open Go.RowKit

/-- The parts of a path, in new memory. -/
def PartsP (nm : ByteArray) (w : World) (e : Ending) (w' : World) : Prop :=
  ∃ (g n : Nat), e = .returned (.slice (some ⟨g, 0, none⟩) n n) ∧ Row KStr w' (fun k => w.heap.size ≤ k) (some ⟨g, 0, none⟩) n n (partsOf nm) ∧ Below w.heap.size w w'
theorem parts_a : partsOf ⟨#[97]⟩ = [⟨#[97]⟩] := by decide +kernel
theorem parts_b : partsOf ⟨#[98]⟩ = [⟨#[98]⟩] := by decide +kernel
theorem parts_n : partsOf ⟨#[110]⟩ = [⟨#[110]⟩] := by decide +kernel
theorem parts_ab : partsOf ⟨#[97, 46, 98]⟩ = [⟨#[97]⟩, ⟨#[98]⟩] := by decide +kernel
theorem parts_c0 : partsOf ⟨#[99, 46, 48]⟩ = [⟨#[99]⟩, ⟨#[48]⟩] := by decide +kernel
theorem one_str {w : World} {g : Nat} {ok : Nat → Prop} {a : ByteArray} (h : w.heap[g]? = some (.cells #[.string a] 9 (0, 0))) (hg : ok g) (ha : a.size ≤ 16) : Row KStr w ok (some ⟨g, 0, none⟩) 1 1 [a] :=
  StrsAt.row (l := [a]) ⟨h, (by show 1 ≤ 9223372036854775807; decide), fun p hp => by rw [List.mem_singleton.1 hp]; omega⟩ hg (fun p hp => by rw [List.mem_singleton.1 hp]; omega) (by show 1 ≤ maxLen; decide)
theorem two_str {w : World} {g : Nat} {ok : Nat → Prop} {a b : ByteArray} (h : w.heap[g]? = some (.cells #[.string a, .string b] 9 (0, 0))) (hg : ok g) (ha : a.size ≤ 16) (hb : b.size ≤ 16) : Row KStr w ok (some ⟨g, 0, none⟩) 2 2 [a, b] :=
  StrsAt.row (l := [a, b]) ⟨h, (by show 2 ≤ 9223372036854775807; decide), fun p hp => by
    rcases List.mem_cons.1 hp with rfl | hp
    · omega
    · rw [List.mem_singleton.1 hp]; omega⟩ hg (fun p hp => by
    rcases List.mem_cons.1 hp with rfl | hp
    · omega
    · rw [List.mem_singleton.1 hp]; omega) (by show 2 ≤ maxLen; decide)
set_option maxRecDepth 100000 in
set_option maxHeartbeats 4000000 in
theorem parts_calls (nm : ByteArray) (w : World) (h : nm ∈ docNames.drop 2) : Calls Tryz.prog 92 #[.string nm] w (PartsP nm w) := by
  simp only [docNames, List.drop, List.mem_cons, List.not_mem_nil, or_false] at h
  rcases h with rfl | rfl | rfl | rfl | rfl
  · go_enter Tryz.func92, Tryz.ntmps92
    go_wp2_with fail
    go_ret
    exact ⟨w.heap.size, 1, rfl, by rw [parts_a]; exact one_str (blk_new rfl) (Nat.le_refl _) (by decide), bel_alloc _ _⟩
  · go_enter Tryz.func92, Tryz.ntmps92
    go_wp2_with fail
    go_region
    all_goals (
      go_wp2_with fail
      go_ret
      rw [show (⟨#[97, 46, 98]⟩ : ByteArray).extract 0 1 = ⟨#[97]⟩ by decide +kernel, show (⟨#[97, 46, 98]⟩ : ByteArray).extract 2 3 = ⟨#[98]⟩ by decide +kernel]
      exact ⟨w.heap.size, 2, rfl, by rw [parts_ab]; exact two_str (blk_draw (blk_new rfl)) (Nat.le_refl _) (by decide) (by decide), bel_step (bel_alloc _ _) (bel_draw _)⟩)
  · go_enter Tryz.func92, Tryz.ntmps92
    go_wp2_with fail
    go_ret
    exact ⟨w.heap.size, 1, rfl, by rw [parts_b]; exact one_str (blk_new rfl) (Nat.le_refl _) (by decide), bel_alloc _ _⟩
  · go_enter Tryz.func92, Tryz.ntmps92
    go_wp2_with fail
    go_region
    all_goals (
      go_wp2_with fail
      go_ret
      rw [show (⟨#[99, 46, 48]⟩ : ByteArray).extract 0 1 = ⟨#[99]⟩ by decide +kernel, show (⟨#[99, 46, 48]⟩ : ByteArray).extract 2 3 = ⟨#[48]⟩ by decide +kernel]
      exact ⟨w.heap.size, 2, rfl, by rw [parts_c0]; exact two_str (blk_draw (blk_new rfl)) (Nat.le_refl _) (by decide) (by decide), bel_step (bel_alloc _ _) (bel_draw _)⟩)
  · go_enter Tryz.func92, Tryz.ntmps92
    go_wp2_with fail
    go_ret
    exact ⟨w.heap.size, 1, rfl, by rw [parts_n]; exact one_str (blk_new rfl) (Nat.le_refl _) (by decide), bel_alloc _ _⟩

theorem count_next {α : Type} {xs : List α} {k : Nat} {x : α} (p : α → Bool) (hx : xs[k]? = some x) : (xs.take (k + 1)).countP p = (xs.take k).countP p + if p x = true then 1 else 0 := by
  have hk : k < xs.length := (List.getElem?_eq_some_iff.1 hx).1
  rw [List.getElem?_eq_getElem hk] at hx
  injection hx with hx
  rw [List.take_succ_eq_append_getElem hk, List.countP_append, hx]
  simp [List.countP_cons]
theorem count_all {α : Type} (p : α → Bool) (xs : List α) : xs.all p = decide (xs.countP p = xs.length) := by
  rw [Bool.eq_iff_iff, decide_eq_true_eq, List.countP_eq_length, List.all_eq_true]
theorem count_any {α : Type} (p : α → Bool) (xs : List α) : xs.any p = decide (0 < xs.countP p) := by
  rw [Bool.eq_iff_iff, decide_eq_true_eq, List.countP_pos_iff, List.any_eq_true]
set_option maxRecDepth 100000 in
set_option maxHeartbeats 4000000 in
theorem meets_join (D : Nat) (nm : ByteArray) (y : Val) (la2 : Option Addr) (ln2 lc2 : Nat) (fa2 : Option Addr) (fn2 fc2 : Nat) (doc : Val) (la3 : Option Addr) (ln3 lc3 : Nat) (fa3 : Option Addr) (fn3 fc3 : Nat) (ok : Nat → Prop) (w : World) (p : Val → Bool) (isAnd : Bool) (hn : nm = if isAnd then ⟨#[36, 97, 110, 100]⟩ else ⟨#[36, 111, 114]⟩) (hl : y.list ≠ []) (hln : ln2 ≤ 1000000) (hy : (KV (D + 2)).R w ok y [.int .i64 y.kind, .int .i64 y.int, .string y.text, .slice la2 ln2 lc2, .slice fa2 fn2 fc2])
    (hone : ∀ (x : Val) (la : Option Addr) (ln lc : Nat) (fa : Option Addr) (fn fc : Nat) (W : World), Below w.heap.size w W → x ∈ y.list → (KV (D + 1)).R W ok x [.int .i64 x.kind, .int .i64 x.int, .string x.text, .slice la ln lc, .slice fa fn fc] → Calls Tryz.prog 31 #[.agg #[.int .i64 x.kind, .int .i64 x.int, .string x.text, .slice la ln lc, .slice fa fn fc], .agg #[.int .i64 doc.kind, .int .i64 doc.int, .string doc.text, .slice la3 ln3 lc3, .slice fa3 fn3 fc3]] W fun e w' => e = .returned (.bool (p x)) ∧ Below W.heap.size W w') :
    Calls Tryz.prog 60 #[.agg #[.string nm, .int .i64 y.kind, .int .i64 y.int, .string y.text, .slice la2 ln2 lc2, .slice fa2 fn2 fc2], .agg #[.int .i64 doc.kind, .int .i64 doc.int, .string doc.text, .slice la3 ln3 lc3, .slice fa3 fn3 fc3]] w fun e w' => e = .returned (.bool (if isAnd then y.list.all p else y.list.any p)) ∧ Below w.heap.size w w' := by
  obtain ⟨res, hres⟩ : ∃ res : Bool, res = if isAnd then y.list.all p else y.list.any p := ⟨_, rfl⟩
  rw [← hres]
  rw [count_all, count_any] at hres
  have hr := (KV_parts hy).2.2.2.1
  have hlen := hr.length
  have hcap := hr.cap
  have hln0 : 0 < ln2 := by
    rcases Nat.eq_zero_or_pos ln2 with h | h
    · exact (hl (List.length_eq_zero_iff.1 (hlen.trans h))).elim
    · exact h
  have H := Ap.of hr
  have HLN := Ap.of hlen
  have HONE := Ap.of hone
  clear hr hlen hone hy hl
  generalize y.list = xs at *
  generalize y.int = yi at *
  generalize y.text = yt at *
  generalize y.kind = yk at *
  cases isAnd
  all_goals
    simp only [if_true, Bool.false_eq_true, if_false] at hn hres
    have HRES := Ap.of hres
    clear hres
    subst hn
    go_enter Tryz.func60, Tryz.ntmps60
    go_wp2_with fail
    go_loopw [5, 29] (fun vn vi wr => ∃ (k n : Nat), k ≤ ln2 ∧ n ≤ k ∧ vi = .int .i64 k ∧ vn = .int .i64 n ∧ Ap (n = (xs.take k).countP p) ∧ Ap (wr.heap[w.heap.size + 1]? = some (.cells #[.int .i64 doc.kind, .int .i64 doc.int, .string doc.text, .slice la3 ln3 lc3, .slice fa3 fn3 fc3] 28 (0, 0))) ∧ Ap (wr.heap[w.heap.size]? = some (.cells #[.string _, .int .i64 yk, .int .i64 yi, .string yt, .slice la2 ln2 lc2, .slice fa2 fn2 fc2] 37 (0, 0))) ∧ Ap (Below w.heap.size w wr)) (fun _ vi _ => ln2 - (intOf vi).toNat)
    case atStart => exact ⟨0, 0, Nat.zero_le _, Nat.le_refl _, rfl, rfl, Ap.of (by simp), Ap.of (blk_new (by simp)), Ap.of (blk_old (blk_new rfl)), Ap.of (bel_step (bel_alloc _ _) (bel_alloc _ _))⟩
    case round =>
      obtain ⟨k, n, hk, hnk, rfl, rfl, HN, BD, BY, BL⟩ := hrel
      have cy := blk_cells BY.out
      have ly := blk_lt BY.out
      by_cases hlt : k < ln2
      · have hlt' : (k : Int) < (ln2 : Int) := by omega
        obtain ⟨g2, off, x, la, xn, lc, fa, fn, fc, rfl, hx, hr, c0, c1, c2, c3, c4⟩ := val_cells (Row.below H.out BL.out) hlt
        have cd := blk_cells BD.out
        have ld := blk_lt BD.out
        have lc0 := World.block_lt_of_cell? _ _ c0
        have HCN := Ap.of (count_next p hx)
        have HC := Ap.of (HONE.out x la xn lc fa fn fc (wr.alloc (.cells #[.int .i64 x.kind, .int .i64 x.int, .string x.text, .slice la xn lc, .slice fa fn fc] 28)) (bel_stepB BL.out BL.out.size (bel_alloc _ _)) (List.mem_of_getElem? hx) (Knd.below hr (bel_alloc _ _)))
        have HLT := Ap.of hlt
        clear hx hr
        generalize p x = q at *
        go_wp2_with fail
        refine HC.out.mono ?_
        rintro e w3 ⟨rfl, hb⟩
        have hb2 := bel_step (bel_alloc wr (.cells #[.int .i64 x.kind, .int .i64 x.int, .string x.text, .slice la xn lc, .slice fa fn fc] 28)) hb
        have BD3 := Ap.of (blk_bel BD.out hb2)
        have BY3 := Ap.of (blk_bel BY.out hb2)
        have BL3 := Ap.of (bel_stepB BL.out BL.out.size hb2)
        clear hb hb2
        cases q with
        | true =>
          go_wp2_with fail
          go_roundw
          case rel => exact ⟨k + 1, n + 1, by have := HLT.out; omega, by omega, by go_num, by go_num, Ap.of (by rw [HCN.out, ← HN.out]; simp), BD3, BY3, BL3⟩
          case measure => have := HLT.out; simp [intOf]; omega
        | false =>
          go_wp2_with fail
          go_roundw
          case rel => exact ⟨k + 1, n, by have := HLT.out; omega, by omega, by go_num, rfl, Ap.of (by rw [HCN.out, ← HN.out]; simp), BD3, BY3, BL3⟩
          case measure => have := HLT.out; simp [intOf]; omega
      · obtain rfl : k = ln2 := by omega
        have hlt' : ¬ (k : Int) < (k : Int) := by omega
        have HNA : Ap (n = xs.countP p) := Ap.of (by rw [HN.out, ← HLN.out, List.take_length])
        by_cases ha : n = k
        · have ha' : ((n : Int) == (k : Int)) = true := by rw [ha]; simp
          have ha2 : (n == k) = true := by simpa using ha
          have HA := Ap.of ha
          clear ha
          go_wp2_with fail
          go_ret
          exact ⟨by rw [HRES.out, ← HNA.out]; first | (rw [HLN.out, decide_eq_true HA.out]; rfl) | (rw [decide_eq_true (show 0 < n by rw [HA.out]; exact hln0)]; rfl), BL.out⟩
        · have ha' : ((n : Int) == (k : Int)) = false := by simp; omega
          have ha2 : (n == k) = false := by simpa using ha
          have HA := Ap.of ha
          clear ha
          by_cases h0 : 0 < n
          · have h0' : (0 : Int) < (n : Int) := by omega
            have h0b : decide ((0 : Int) < (n : Int)) = true := by simpa using h0'
            go_wp2_with fail
            go_ret
            exact ⟨by rw [HRES.out, ← HNA.out]; first | (rw [HLN.out, decide_eq_false HA.out]; rfl) | (rw [decide_eq_true h0]; rfl), BL.out⟩
          · have h0' : ¬ (0 : Int) < (n : Int) := by omega
            have h0b : decide ((0 : Int) < (n : Int)) = false := by simpa using h0'
            go_wp2_with fail
            go_ret
            exact ⟨by rw [HRES.out, ← HNA.out]; first | (rw [HLN.out, decide_eq_false HA.out]; rfl) | (rw [decide_eq_false h0]; rfl), BL.out⟩
end Go.Proofs.YtlomieopppndeaaGreatDoor
