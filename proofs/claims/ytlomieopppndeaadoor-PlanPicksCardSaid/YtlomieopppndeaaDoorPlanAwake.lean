/- roundelaylaw17.awake: the document's examples. -/
import Derived.Test.YtlomieopppndeaaDoorPickWalk
import Derived.Test.YtlomieopppndeaaDoorLKey3
import Derived.Test.YtlomieopppndeaaDoorStructE
import Derived.Deep.RegionHeld3
namespace Go.Proofs.YtlomieopppndeaaDoor
open Go.RowKit

def vI (n : Int) : Val := .mk 2 n ⟨#[]⟩ [] []
def fOne : Flt := .mk 5 ⟨#[97]⟩ (vI 1) []
def fTwo : Flt := .mk 6 ⟨#[97]⟩ (vI 3) []
def fFive : Flt := .mk 2 ⟨#[98]⟩ (vI 5) []
def fAll : Flt := .mk 0 ⟨#[]⟩ Val.zero [fOne, fTwo, fFive]
theorem all_a : boundsD 11 2 fAll ⟨#[97]⟩ = (keyB 11 (vI 1), keyB 11 (vI 3), false, true) := by decide +kernel
theorem all_pick2 : (pickD (fun p => boundsD 11 2 fAll p) [(⟨#[97]⟩, ⟨#[97]⟩), (⟨#[98]⟩, ⟨#[98]⟩)]).name = ⟨#[98]⟩ := by decide +kernel
theorem all_pick1 : (pickD (fun p => boundsD 11 2 fAll p) [(⟨#[97]⟩, ⟨#[97]⟩)]).name = ⟨#[97]⟩ := by decide +kernel
theorem all_pick0 : pickD (fun p => boundsD 11 2 fAll p) [] = pln0 := rfl
theorem vI_good (n : Int) (h0 : 0 ≤ n) (h1 : n ≤ 5) : GoodV 5 (vI n) := ⟨by show (0 : Int) ≤ 2; decide, by show (2 : Int) ≤ 5; decide, ⟨by show -9223372036854775808 ≤ n; omega, by show n ≤ 9223372036854775807; omega⟩, empty_word, Nat.zero_le _, (fun y hy => by cases hy), List.nil_sublist _, (fun p hp => by cases hp), .inr (.inl rfl), .inr rfl, .inr rfl, .inr rfl, fun h => by cases h⟩
theorem all_subs : SubsN 7 2 fAll := ⟨by show 3 ≤ 7; decide, fun s hs => by
  have hs' : s ∈ [fOne, fTwo, fFive] := hs
  simp only [List.mem_cons, List.not_mem_nil, or_false] at hs'
  rcases hs' with rfl | rfl | rfl <;> exact ⟨Nat.zero_le _, fun t ht => by cases ht⟩⟩
theorem all_conds : ∀ c ∈ condsD 2 fAll, CondV c := by
  intro c hc
  have h : condsD 2 fAll = [fOne, fTwo, fFive] := rfl
  rw [h] at hc
  simp only [List.mem_cons, List.not_mem_nil, or_false] at hc
  rcases hc with rfl | rfl | rfl
  · exact ⟨vI_good 1 (by decide) (by decide), by decide, by decide, fun h => by cases h⟩
  · exact ⟨vI_good 3 (by decide) (by decide), by decide, by decide, fun h => by cases h⟩
  · exact ⟨vI_good 5 (by decide) (by decide), by decide, by decide, fun h => by cases h⟩
theorem vI_R (w : World) (ok : Nat → Prop) (n : Int) (h0 : 0 ≤ n) (h1 : n ≤ 5) (d : Nat) : (KV (d + 1)).R w ok (vI n) [.int .i64 2, .int .i64 n, .string ⟨#[]⟩, .slice none 0 0, .slice none 0 0] :=
  ⟨none, 0, 0, none, 0, 0, rfl, ⟨by show -9223372036854775808 ≤ (2 : Int); decide, by show (2 : Int) ≤ 9223372036854775807; decide⟩, ⟨by show -9223372036854775808 ≤ n; omega, by show n ≤ 9223372036854775807; omega⟩, by show 0 ≤ maxLen; exact Nat.zero_le _, Row.nil _ _ _, Row.nil _ _ _⟩
theorem leaf_R (w : World) (ok : Nat → Prop) (op n : Int) (c : UInt8) (ho : 0 ≤ op) (ho2 : op ≤ 9) (h0 : 0 ≤ n) (h1 : n ≤ 5) : (KF 11 1).R w ok (.mk op ⟨#[c]⟩ (vI n) []) [.int .i64 op, .string ⟨#[c]⟩, .int .i64 2, .int .i64 n, .string ⟨#[]⟩, .slice none 0 0, .slice none 0 0, .slice none 0 0] :=
  ⟨[.int .i64 2, .int .i64 n, .string ⟨#[]⟩, .slice none 0 0, .slice none 0 0], none, 0, 0, rfl, ⟨by show -9223372036854775808 ≤ op; omega, by show op ≤ 9223372036854775807; omega⟩, by show 1 ≤ maxLen; unfold maxLen; decide, vI_R w ok n h0 h1 10, Row.nil _ _ _⟩
abbrev F24 : Array Value := #[.int .i64 5, .string ⟨#[97]⟩, .int .i64 2, .int .i64 1, .string ⟨#[]⟩, .slice none 0 0, .slice none 0 0, .slice none 0 0, .int .i64 6, .string ⟨#[97]⟩, .int .i64 2, .int .i64 3, .string ⟨#[]⟩, .slice none 0 0, .slice none 0 0, .slice none 0 0, .int .i64 2, .string ⟨#[98]⟩, .int .i64 2, .int .i64 5, .string ⟨#[]⟩, .slice none 0 0, .slice none 0 0, .slice none 0 0]
theorem all_R {w : World} {g : Nat} (h : w.heap[g]? = some (.cells F24 32 (0, 0))) : (KF 11 2).R w (fun _ => True) fAll [.int .i64 0, .string ⟨#[]⟩, .int .i64 0, .int .i64 0, .string ⟨#[]⟩, .slice none 0 0, .slice none 0 0, .slice (some ⟨g, 0, none⟩) 3 3] := by
  refine ⟨[.int .i64 0, .int .i64 0, .string ⟨#[]⟩, .slice none 0 0, .slice none 0 0], some ⟨g, 0, none⟩, 3, 3, rfl, ⟨by show -9223372036854775808 ≤ (0 : Int); decide, by show (0 : Int) ≤ 9223372036854775807; decide⟩, by show 0 ≤ maxLen; exact Nat.zero_le _, KV_zero _ _ 10, .inr ⟨g, 0, rfl, rfl, Nat.le_refl _, by unfold maxLen; decide, trivial, blk_lt h, fun i x hx => ?_⟩⟩
  have hx' : [fOne, fTwo, fFive][i]? = some x := hx
  have hsz : (KF 11 1).sz = 8 := rfl
  rw [hsz]
  have hc := blk_cells h
  match i, hx' with
  | 0, hx' =>
    injection hx' with hx'
    subst hx'
    refine ⟨_, leaf_R w _ 5 1 97 (by decide) (by decide) (by decide) (by decide), fun j u hj => ?_⟩
    rw [hc]
    match j, hj with
    | 0, hj | 1, hj | 2, hj | 3, hj | 4, hj | 5, hj | 6, hj | 7, hj => exact hj
    | j + 8, hj => simp at hj
  | 1, hx' =>
    injection hx' with hx'
    subst hx'
    refine ⟨_, leaf_R w _ 6 3 97 (by decide) (by decide) (by decide) (by decide), fun j u hj => ?_⟩
    rw [hc]
    match j, hj with
    | 0, hj | 1, hj | 2, hj | 3, hj | 4, hj | 5, hj | 6, hj | 7, hj => exact hj
    | j + 8, hj => simp at hj
  | 2, hx' =>
    injection hx' with hx'
    subst hx'
    refine ⟨_, leaf_R w _ 2 5 98 (by decide) (by decide) (by decide) (by decide), fun j u hj => ?_⟩
    rw [hc]
    match j, hj with
    | 0, hj | 1, hj | 2, hj | 3, hj | 4, hj | 5, hj | 6, hj | 7, hj => exact hj
    | j + 8, hj => simp at hj
  | i + 3, hx' => simp at hx'
theorem two_specs {w : World} {g : Nat} (h : w.heap[g]? = some (.cells #[.string ⟨#[97]⟩, .string ⟨#[97]⟩, .bool false, .string ⟨#[98]⟩, .string ⟨#[98]⟩, .bool false] 46 (0, 0))) : Row KSp w (fun k => k < w.heap.size) (some ⟨g, 0, none⟩) 2 2 [(⟨#[97]⟩, ⟨#[97]⟩), (⟨#[98]⟩, ⟨#[98]⟩)] := by
  refine .inr ⟨g, 0, rfl, rfl, Nat.le_refl _, by unfold maxLen; decide, blk_lt h, blk_lt h, fun i x hx => ?_⟩
  have hsz : KSp.sz = 3 := rfl
  rw [hsz]
  have hc := blk_cells h
  match i, hx with
  | 0, hx =>
    injection hx with hx
    subst hx
    refine ⟨_, ⟨rfl, by unfold maxLen; decide, by unfold maxLen; decide⟩, fun j u hj => ?_⟩
    rw [hc]
    match j, hj with
    | 0, hj | 1, hj | 2, hj => exact hj
    | j + 3, hj => simp at hj
  | 1, hx =>
    injection hx with hx
    subst hx
    refine ⟨_, ⟨rfl, by unfold maxLen; decide, by unfold maxLen; decide⟩, fun j u hj => ?_⟩
    rw [hc]
    match j, hj with
    | 0, hj | 1, hj | 2, hj => exact hj
    | j + 3, hj => simp at hj
  | i + 2, hx => simp at hx
theorem one_spec {w : World} {g : Nat} (h : w.heap[g]? = some (.cells #[.string ⟨#[97]⟩, .string ⟨#[97]⟩, .bool false] 46 (0, 0))) : Row KSp w (fun k => k < w.heap.size) (some ⟨g, 0, none⟩) 1 1 [(⟨#[97]⟩, ⟨#[97]⟩)] := by
  refine .inr ⟨g, 0, rfl, rfl, Nat.le_refl _, by unfold maxLen; decide, blk_lt h, blk_lt h, fun i x hx => ?_⟩
  have hsz : KSp.sz = 3 := rfl
  rw [hsz]
  have hc := blk_cells h
  match i, hx with
  | 0, hx =>
    injection hx with hx
    subst hx
    refine ⟨_, ⟨rfl, by unfold maxLen; decide, by unfold maxLen; decide⟩, fun j u hj => ?_⟩
    rw [hc]
    match j, hj with
    | 0, hj | 1, hj | 2, hj => exact hj
    | j + 3, hj => simp at hj
  | i + 1, hx => simp at hx
theorem fld0 : ∀ (x y z : ByteArray) (d : Bool) (W : World), (Instr.field 44 (.agg #[.string x, .string y, .string z, .bool d]) 0).run Tryd.prog W = .ok (.string x) W := fun _ _ _ _ _ => by kernel_rfl
theorem eq00 : ∀ W : World, (Op.equalIn 10000 44 (.agg #[.string ⟨#[]⟩, .string ⟨#[]⟩, .string ⟨#[]⟩, .bool false]) (.agg #[.string ⟨#[]⟩, .string ⟨#[]⟩, .string ⟨#[]⟩, .bool false])).run Tryd.prog W = .ok true W := fun W => by rw [eqPlan]; rfl
theorem pln_named {q : Pln} {n : ByteArray} (h : q.name = n) {en : Ending} (he : en = .returned (.agg #[.string q.name, .string q.fro, .string q.til, .bool false])) : ∃ a b, en = .returned (.agg #[.string n, .string a, .string b, .bool false]) := ⟨q.fro, q.til, by rw [he, h]⟩
set_option maxRecDepth 100000 in
set_option maxHeartbeats 4000000 in
theorem pawake_calls (w : World) (G : ParG w) : Calls Tryd.prog 9 #[] w fun e w' => e = .returned (.bool true) ∧ Below w.heap.size w w' := by
  have hb5 := bel_step (bel_step (bel_step (bel_step (bel_alloc w (.cells #[.int .i64 5, .string ⟨#[97]⟩, .int .i64 2, .int .i64 1, .string ⟨#[]⟩, .slice none 0 0, .slice none 0 0, .slice none 0 0] 32)) (bel_alloc _ (.cells #[.int .i64 6, .string ⟨#[97]⟩, .int .i64 2, .int .i64 3, .string ⟨#[]⟩, .slice none 0 0, .slice none 0 0, .slice none 0 0] 32))) (bel_alloc _ (.cells #[.int .i64 2, .string ⟨#[98]⟩, .int .i64 2, .int .i64 5, .string ⟨#[]⟩, .slice none 0 0, .slice none 0 0, .slice none 0 0] 32))) (bel_alloc _ (.cells #[.int .i64 5, .string ⟨#[97]⟩, .int .i64 2, .int .i64 1, .string ⟨#[]⟩, .slice none 0 0, .slice none 0 0, .slice none 0 0, .int .i64 6, .string ⟨#[97]⟩, .int .i64 2, .int .i64 3, .string ⟨#[]⟩, .slice none 0 0, .slice none 0 0, .slice none 0 0, .int .i64 2, .string ⟨#[98]⟩, .int .i64 2, .int .i64 5, .string ⟨#[]⟩, .slice none 0 0, .slice none 0 0, .slice none 0 0] 32))) (bel_alloc _ (.cells #[.int .i64 0, .string ⟨#[]⟩, .int .i64 0, .int .i64 0, .string ⟨#[]⟩, .slice none 0 0, .slice none 0 0, .slice (some ⟨w.heap.size + 1 + 1 + 1, 0, none⟩) 3 3] 32))
  have B1 := Ap.of (blk_old (o' := (.cells #[.int .i64 0, .string ⟨#[]⟩, .int .i64 0, .int .i64 0, .string ⟨#[]⟩, .slice none 0 0, .slice none 0 0, .slice (some ⟨w.heap.size + 1 + 1 + 1, 0, none⟩) 3 3] 32)) (blk_old (o' := (.cells #[.int .i64 5, .string ⟨#[97]⟩, .int .i64 2, .int .i64 1, .string ⟨#[]⟩, .slice none 0 0, .slice none 0 0, .slice none 0 0, .int .i64 6, .string ⟨#[97]⟩, .int .i64 2, .int .i64 3, .string ⟨#[]⟩, .slice none 0 0, .slice none 0 0, .slice none 0 0, .int .i64 2, .string ⟨#[98]⟩, .int .i64 2, .int .i64 5, .string ⟨#[]⟩, .slice none 0 0, .slice none 0 0, .slice none 0 0] 32)) (blk_old (o' := (.cells #[.int .i64 2, .string ⟨#[98]⟩, .int .i64 2, .int .i64 5, .string ⟨#[]⟩, .slice none 0 0, .slice none 0 0, .slice none 0 0] 32)) (blk_old (o' := (.cells #[.int .i64 6, .string ⟨#[97]⟩, .int .i64 2, .int .i64 3, .string ⟨#[]⟩, .slice none 0 0, .slice none 0 0, .slice none 0 0] 32)) (blk_new (w := w) (k := w.heap.size) (o := (.cells #[.int .i64 5, .string ⟨#[97]⟩, .int .i64 2, .int .i64 1, .string ⟨#[]⟩, .slice none 0 0, .slice none 0 0, .slice none 0 0] 32)) rfl)))))
  have B2 := Ap.of (blk_old (o' := (.cells #[.int .i64 0, .string ⟨#[]⟩, .int .i64 0, .int .i64 0, .string ⟨#[]⟩, .slice none 0 0, .slice none 0 0, .slice (some ⟨w.heap.size + 1 + 1 + 1, 0, none⟩) 3 3] 32)) (blk_old (o' := (.cells #[.int .i64 5, .string ⟨#[97]⟩, .int .i64 2, .int .i64 1, .string ⟨#[]⟩, .slice none 0 0, .slice none 0 0, .slice none 0 0, .int .i64 6, .string ⟨#[97]⟩, .int .i64 2, .int .i64 3, .string ⟨#[]⟩, .slice none 0 0, .slice none 0 0, .slice none 0 0, .int .i64 2, .string ⟨#[98]⟩, .int .i64 2, .int .i64 5, .string ⟨#[]⟩, .slice none 0 0, .slice none 0 0, .slice none 0 0] 32)) (blk_old (o' := (.cells #[.int .i64 2, .string ⟨#[98]⟩, .int .i64 2, .int .i64 5, .string ⟨#[]⟩, .slice none 0 0, .slice none 0 0, .slice none 0 0] 32)) (blk_new (w := (w.alloc (.cells #[.int .i64 5, .string ⟨#[97]⟩, .int .i64 2, .int .i64 1, .string ⟨#[]⟩, .slice none 0 0, .slice none 0 0, .slice none 0 0] 32))) (k := w.heap.size + 1) (o := (.cells #[.int .i64 6, .string ⟨#[97]⟩, .int .i64 2, .int .i64 3, .string ⟨#[]⟩, .slice none 0 0, .slice none 0 0, .slice none 0 0] 32)) (by simp)))))
  have B4 := Ap.of (blk_old (o' := (.cells #[.int .i64 0, .string ⟨#[]⟩, .int .i64 0, .int .i64 0, .string ⟨#[]⟩, .slice none 0 0, .slice none 0 0, .slice (some ⟨w.heap.size + 1 + 1 + 1, 0, none⟩) 3 3] 32)) (blk_new (w := (((w.alloc (.cells #[.int .i64 5, .string ⟨#[97]⟩, .int .i64 2, .int .i64 1, .string ⟨#[]⟩, .slice none 0 0, .slice none 0 0, .slice none 0 0] 32)).alloc (.cells #[.int .i64 6, .string ⟨#[97]⟩, .int .i64 2, .int .i64 3, .string ⟨#[]⟩, .slice none 0 0, .slice none 0 0, .slice none 0 0] 32)).alloc (.cells #[.int .i64 2, .string ⟨#[98]⟩, .int .i64 2, .int .i64 5, .string ⟨#[]⟩, .slice none 0 0, .slice none 0 0, .slice none 0 0] 32))) (k := w.heap.size + 1 + 1 + 1) (o := (.cells #[.int .i64 5, .string ⟨#[97]⟩, .int .i64 2, .int .i64 1, .string ⟨#[]⟩, .slice none 0 0, .slice none 0 0, .slice none 0 0, .int .i64 6, .string ⟨#[97]⟩, .int .i64 2, .int .i64 3, .string ⟨#[]⟩, .slice none 0 0, .slice none 0 0, .slice none 0 0, .int .i64 2, .string ⟨#[98]⟩, .int .i64 2, .int .i64 5, .string ⟨#[]⟩, .slice none 0 0, .slice none 0 0, .slice none 0 0] 32)) (by simp)))
  have B5 := Ap.of (blk_new (w := ((((w.alloc (.cells #[.int .i64 5, .string ⟨#[97]⟩, .int .i64 2, .int .i64 1, .string ⟨#[]⟩, .slice none 0 0, .slice none 0 0, .slice none 0 0] 32)).alloc (.cells #[.int .i64 6, .string ⟨#[97]⟩, .int .i64 2, .int .i64 3, .string ⟨#[]⟩, .slice none 0 0, .slice none 0 0, .slice none 0 0] 32)).alloc (.cells #[.int .i64 2, .string ⟨#[98]⟩, .int .i64 2, .int .i64 5, .string ⟨#[]⟩, .slice none 0 0, .slice none 0 0, .slice none 0 0] 32)).alloc (.cells #[.int .i64 5, .string ⟨#[97]⟩, .int .i64 2, .int .i64 1, .string ⟨#[]⟩, .slice none 0 0, .slice none 0 0, .slice none 0 0, .int .i64 6, .string ⟨#[97]⟩, .int .i64 2, .int .i64 3, .string ⟨#[]⟩, .slice none 0 0, .slice none 0 0, .slice none 0 0, .int .i64 2, .string ⟨#[98]⟩, .int .i64 2, .int .i64 5, .string ⟨#[]⟩, .slice none 0 0, .slice none 0 0, .slice none 0 0] 32))) (k := w.heap.size + 1 + 1 + 1 + 1) (o := (.cells #[.int .i64 0, .string ⟨#[]⟩, .int .i64 0, .int .i64 0, .string ⟨#[]⟩, .slice none 0 0, .slice none 0 0, .slice (some ⟨w.heap.size + 1 + 1 + 1, 0, none⟩) 3 3] 32)) (by simp))
  have HB5 := Ap.of hb5
  have GG := Ap.of G
  have HBO := Ap.of (bounds_calls 2 11 fAll none 0 0 none 0 0 (some ⟨w.heap.size + 1 + 1 + 1, 0, none⟩) 3 3 ⟨#[97]⟩ _ (by decide) (by decide) all_subs all_conds (G.below hb5) (all_R B4.out))
  rw [all_a] at HBO
  unfold BndP at HBO
  clear hb5 G
  go_enter Tryd.func9, Tryd.ntmps9
  go_wp2_with fail
  refine HBO.out.mono ?_
  rintro en w6 ⟨rfl, hb⟩
  have hbU := bel_step (bel_step (bel_step hb (bel_alloc w6 (.cells #[.string (keyB 11 (vI 1)), .string (keyB 11 (vI 3)), .bool false] 37))) (bel_alloc _ (.cells #[.string ⟨#[97]⟩, .string ⟨#[97]⟩, .bool false] 46))) (bel_alloc _ (.cells #[.string ⟨#[98]⟩, .string ⟨#[98]⟩, .bool false] 46))
  have BU1 := Ap.of (blk_bel B1.out hbU)
  have BU2 := Ap.of (blk_bel B2.out hbU)
  have BU4 := Ap.of (blk_bel B4.out hbU)
  have BU5 := Ap.of (blk_bel B5.out hbU)
  have BU6 := Ap.of (blk_old (o' := (.cells #[.string ⟨#[98]⟩, .string ⟨#[98]⟩, .bool false] 46)) (blk_old (o' := (.cells #[.string ⟨#[97]⟩, .string ⟨#[97]⟩, .bool false] 46)) (blk_new (w := w6) (k := w6.heap.size) (o := (.cells #[.string (keyB 11 (vI 1)), .string (keyB 11 (vI 3)), .bool false] 37)) rfl)))
  have BU8 := Ap.of (blk_old (o' := (.cells #[.string ⟨#[98]⟩, .string ⟨#[98]⟩, .bool false] 46)) (blk_new (w := w6.alloc (.cells #[.string (keyB 11 (vI 1)), .string (keyB 11 (vI 3)), .bool false] 37)) (k := w6.heap.size + 1) (o := (.cells #[.string ⟨#[97]⟩, .string ⟨#[97]⟩, .bool false] 46)) (by simp)))
  have BU9 := Ap.of (blk_new (w := (w6.alloc (.cells #[.string (keyB 11 (vI 1)), .string (keyB 11 (vI 3)), .bool false] 37)).alloc (.cells #[.string ⟨#[97]⟩, .string ⟨#[97]⟩, .bool false] 46)) (k := w6.heap.size + 1 + 1) (o := (.cells #[.string ⟨#[98]⟩, .string ⟨#[98]⟩, .bool false] 46)) (by simp))
  have HBU := Ap.of (bel_step HB5.out hbU)
  clear hb hbU HBO B1 B2 B4 B5 HB5
  go_upto_region 7 with fail
  generalize ((w6.alloc (.cells #[.string (keyB 11 (vI 1)), .string (keyB 11 (vI 3)), .bool false] 37)).alloc (.cells #[.string ⟨#[97]⟩, .string ⟨#[97]⟩, .bool false] 46)).alloc (.cells #[.string ⟨#[98]⟩, .string ⟨#[98]⟩, .bool false] 46) = U at *
  generalize w6.heap.size + 1 + 1 = g9 at *
  generalize w6.heap.size + 1 = g8 at *
  generalize w6.heap.size = g6 at *
  generalize w.heap.size + 1 + 1 + 1 + 1 = g5 at *
  generalize w.heap.size + 1 + 1 + 1 = g4 at *
  generalize w.heap.size + 1 + 1 = g3 at *
  generalize w.heap.size + 1 = g2 at *
  obtain ⟨g1, hg1⟩ : ∃ g, g = w.heap.size := ⟨_, rfl⟩
  rw [← hg1] at BU1
  rw [← hg1]
  have HG1 := Ap.of hg1
  clear hg1
  have HP1 := Ap.of (show ∀ W : World, Calls Tryd.prog 19 #[.agg #[.int .i64 2, .int .i64 1, .string ⟨#[]⟩, .slice none 0 0, .slice none 0 0]] W (PutP 11 (vI 1) W) from fun W => lput_calls 5 5 11 (vI 1) none 0 0 none 0 0 W (by decide) (by decide) (by decide) (vI_good 1 (by decide) (by decide)) (vI_R W _ 1 (by decide) (by decide) 4))
  have HP3 := Ap.of (show ∀ W : World, Calls Tryd.prog 19 #[.agg #[.int .i64 2, .int .i64 3, .string ⟨#[]⟩, .slice none 0 0, .slice none 0 0]] W (PutP 11 (vI 3) W) from fun W => lput_calls 5 5 11 (vI 3) none 0 0 none 0 0 W (by decide) (by decide) (by decide) (vI_good 3 (by decide) (by decide)) (vI_R W _ 3 (by decide) (by decide) 4))
  have HPK := Ap.of (fun W (A : Option Addr) (n c : Nat) (sps : List (ByteArray × ByteArray)) (hW : Below U.heap.size U W) (hn : ∀ s ∈ sps, s.1 ≠ ⟨#[]⟩) (hr : Row KSp W (fun k => k < W.heap.size) A n c sps) => pick_calls 2 11 fAll none 0 0 none 0 0 (some ⟨g4, 0, none⟩) 3 3 A n c sps (fun k => k < W.heap.size) W (fun k hk => hk) (by decide) (by decide) all_subs all_conds hn (GG.out.below (bel_step HBU.out hW)) (all_R (blk_bel BU4.out hW)) hr)
  have HK2 := Ap.of (show ∀ W g, Below U.heap.size U W → W.heap[g]? = some (.cells #[.string ⟨#[97]⟩, .string ⟨#[97]⟩, .bool false, .string ⟨#[98]⟩, .string ⟨#[98]⟩, .bool false] 46 (0, 0)) → Calls Tryd.prog 14 #[.agg #[.int .i64 0, .string ⟨#[]⟩, .int .i64 0, .int .i64 0, .string ⟨#[]⟩, .slice none 0 0, .slice none 0 0, .slice (some ⟨g4, 0, none⟩) 3 3], .slice (some ⟨g, 0, none⟩) 2 2] W (fun en w' => (∃ a b, en = .returned (.agg #[.string ⟨#[98]⟩, .string a, .string b, .bool false])) ∧ Below W.heap.size W w') from fun W g hW hg => (HPK.out W _ 2 2 _ hW (by intro s hs; simp only [List.mem_cons, List.not_mem_nil, or_false] at hs; rcases hs with rfl | rfl <;> decide) (two_specs hg)).mono fun en w' ⟨h1, h2⟩ => ⟨pln_named all_pick2 h1, h2⟩)
  have HK1 := Ap.of (show ∀ W g, Below U.heap.size U W → W.heap[g]? = some (.cells #[.string ⟨#[97]⟩, .string ⟨#[97]⟩, .bool false] 46 (0, 0)) → Calls Tryd.prog 14 #[.agg #[.int .i64 0, .string ⟨#[]⟩, .int .i64 0, .int .i64 0, .string ⟨#[]⟩, .slice none 0 0, .slice none 0 0, .slice (some ⟨g4, 0, none⟩) 3 3], .slice (some ⟨g, 0, none⟩) 1 1] W (fun en w' => (∃ a b, en = .returned (.agg #[.string ⟨#[97]⟩, .string a, .string b, .bool false])) ∧ Below W.heap.size W w') from fun W g hW hg => (HPK.out W _ 1 1 _ hW (by intro s hs; simp only [List.mem_cons, List.not_mem_nil, or_false] at hs; subst hs; decide) (one_spec hg)).mono fun en w' ⟨h1, h2⟩ => ⟨pln_named all_pick1 h1, h2⟩)
  have HK0 := Ap.of (show ∀ W, Below U.heap.size U W → Calls Tryd.prog 14 #[.agg #[.int .i64 0, .string ⟨#[]⟩, .int .i64 0, .int .i64 0, .string ⟨#[]⟩, .slice none 0 0, .slice none 0 0, .slice (some ⟨g4, 0, none⟩) 3 3], .slice none 0 0] W (fun en w' => en = .returned (.agg #[.string ⟨#[]⟩, .string ⟨#[]⟩, .string ⟨#[]⟩, .bool false]) ∧ Below W.heap.size W w') from fun W hW => (HPK.out W none 0 0 [] hW (by intro s hs; cases hs) (Row.nil _ _ _)).mono fun en w' ⟨h1, h2⟩ => ⟨by rw [h1, all_pick0]; rfl, h2⟩)
  unfold PutP at HP1 HP3
  clear HPK BU4
  generalize keyB 11 (vI 1) = k1 at *
  generalize keyB 11 (vI 3) = k3 at *
  have hks : ∀ W, Below U.heap.size U W → (Below U.heap.size U W ∧ W.cell? ⟨g6, 0, none⟩ = some (.string k1) ∧ W.cell? ⟨g6, 1, none⟩ = some (.string k3) ∧ W.cell? ⟨g1, 2, none⟩ = some (.int .i64 2) ∧ W.cell? ⟨g1, 3, none⟩ = some (.int .i64 1) ∧ W.cell? ⟨g1, 4, none⟩ = some (.string ⟨#[]⟩) ∧ W.cell? ⟨g1, 5, none⟩ = some (.slice none 0 0) ∧ W.cell? ⟨g1, 6, none⟩ = some (.slice none 0 0) ∧ W.cell? ⟨g2, 2, none⟩ = some (.int .i64 2) ∧ W.cell? ⟨g2, 3, none⟩ = some (.int .i64 3) ∧ W.cell? ⟨g2, 4, none⟩ = some (.string ⟨#[]⟩) ∧ W.cell? ⟨g2, 5, none⟩ = some (.slice none 0 0) ∧ W.cell? ⟨g2, 6, none⟩ = some (.slice none 0 0) ∧ W.cell? ⟨g5, 0, none⟩ = some (.int .i64 0) ∧ W.cell? ⟨g5, 1, none⟩ = some (.string ⟨#[]⟩) ∧ W.cell? ⟨g5, 2, none⟩ = some (.int .i64 0) ∧ W.cell? ⟨g5, 3, none⟩ = some (.int .i64 0) ∧ W.cell? ⟨g5, 4, none⟩ = some (.string ⟨#[]⟩) ∧ W.cell? ⟨g5, 5, none⟩ = some (.slice none 0 0) ∧ W.cell? ⟨g5, 6, none⟩ = some (.slice none 0 0) ∧ W.cell? ⟨g5, 7, none⟩ = some (.slice (some ⟨g4, 0, none⟩) 3 3) ∧ W.cell? ⟨g8, 0, none⟩ = some (.string ⟨#[97]⟩) ∧ W.cell? ⟨g8, 1, none⟩ = some (.string ⟨#[97]⟩) ∧ W.cell? ⟨g8, 2, none⟩ = some (.bool false) ∧ W.cell? ⟨g9, 0, none⟩ = some (.string ⟨#[98]⟩) ∧ W.cell? ⟨g9, 1, none⟩ = some (.string ⟨#[98]⟩) ∧ W.cell? ⟨g9, 2, none⟩ = some (.bool false)) := fun W ho => by
    have e1 := blk_cells (blk_bel BU1.out ho)
    have e2 := blk_cells (blk_bel BU2.out ho)
    have e5 := blk_cells (blk_bel BU5.out ho)
    have e6 := blk_cells (blk_bel BU6.out ho)
    have e8 := blk_cells (blk_bel BU8.out ho)
    have e9 := blk_cells (blk_bel BU9.out ho)
    exact ⟨ho, e6 0, e6 1, e1 2, e1 3, e1 4, e1 5, e1 6, e2 2, e2 3, e2 4, e2 5, e2 6, e5 0, e5 1, e5 2, e5 3, e5 4, e5 5, e5 6, e5 7, e8 0, e8 1, e8 2, e9 0, e9 1, e9 2⟩
  have KS := Ap.of hks
  clear hks
  have hf0 := fld0
  have hq0 := eq00
  have hg0 := gdPlan
  go_region_held3 (fun W => Below U.heap.size U W ∧ W.cell? ⟨g6, 0, none⟩ = some (.string k1) ∧ W.cell? ⟨g6, 1, none⟩ = some (.string k3) ∧ W.cell? ⟨g1, 2, none⟩ = some (.int .i64 2) ∧ W.cell? ⟨g1, 3, none⟩ = some (.int .i64 1) ∧ W.cell? ⟨g1, 4, none⟩ = some (.string ⟨#[]⟩) ∧ W.cell? ⟨g1, 5, none⟩ = some (.slice none 0 0) ∧ W.cell? ⟨g1, 6, none⟩ = some (.slice none 0 0) ∧ W.cell? ⟨g2, 2, none⟩ = some (.int .i64 2) ∧ W.cell? ⟨g2, 3, none⟩ = some (.int .i64 3) ∧ W.cell? ⟨g2, 4, none⟩ = some (.string ⟨#[]⟩) ∧ W.cell? ⟨g2, 5, none⟩ = some (.slice none 0 0) ∧ W.cell? ⟨g2, 6, none⟩ = some (.slice none 0 0) ∧ W.cell? ⟨g5, 0, none⟩ = some (.int .i64 0) ∧ W.cell? ⟨g5, 1, none⟩ = some (.string ⟨#[]⟩) ∧ W.cell? ⟨g5, 2, none⟩ = some (.int .i64 0) ∧ W.cell? ⟨g5, 3, none⟩ = some (.int .i64 0) ∧ W.cell? ⟨g5, 4, none⟩ = some (.string ⟨#[]⟩) ∧ W.cell? ⟨g5, 5, none⟩ = some (.slice none 0 0) ∧ W.cell? ⟨g5, 6, none⟩ = some (.slice none 0 0) ∧ W.cell? ⟨g5, 7, none⟩ = some (.slice (some ⟨g4, 0, none⟩) 3 3) ∧ W.cell? ⟨g8, 0, none⟩ = some (.string ⟨#[97]⟩) ∧ W.cell? ⟨g8, 1, none⟩ = some (.string ⟨#[97]⟩) ∧ W.cell? ⟨g8, 2, none⟩ = some (.bool false) ∧ W.cell? ⟨g9, 0, none⟩ = some (.string ⟨#[98]⟩) ∧ W.cell? ⟨g9, 1, none⟩ = some (.string ⟨#[98]⟩) ∧ W.cell? ⟨g9, 2, none⟩ = some (.bool false))
    (first
      | with_reducible assumption
      | (with_reducible (refine KS.out _ ?_; exact Below.refl _ _))
      | (with_reducible (refine KS.out _ ?_; apply Below.drew; exact Below.refl _ _))
      | (with_reducible (refine KS.out _ ?_; apply bel_stepB _ _ hb3; exact And.left (by assumption); exact (Below.size (And.left (by assumption)))))
      | (with_reducible (refine KS.out _ ?_; apply Below.alloc; exact (And.left (by assumption)); exact (Below.size (And.left (by assumption))))))
    (first
      | (go_at_call 19; (with_reducible apply Calls.mono); (first | (with_reducible apply HP1.out) | (with_reducible apply HP3.out)); rintro en w9 ⟨rfl, hb3⟩)
      | (go_at_call 14; (with_reducible apply Calls.mono); (first | ((with_reducible apply HK0.out); (exact And.left (by assumption)); rintro en w9 ⟨rfl, hb3⟩) | ((with_reducible apply HK2.out); (exact And.left (by assumption)); (exact blk_new rfl); rintro en w9 ⟨⟨a, b, rfl⟩, hb3⟩) | ((with_reducible apply HK1.out); (exact And.left (by assumption)); (exact blk_new rfl); rintro en w9 ⟨⟨a, b, rfl⟩, hb3⟩))))
  all_goals
    have HBL := Ap.of (show Below U.heap.size U w9 from And.left (by assumption))
    have HBE := Ap.of (bel_step HBU.out HBL.out)
    go_wp2_with fail
    go_ret
    exact ⟨rfl, HBE.out⟩
end Go.Proofs.YtlomieopppndeaaDoor
