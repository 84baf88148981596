/- PlanExact's walk: the range of a single condition. -/
import Derived.Test.YtlomieopppndeaaGreatDoorPlanAwake
import Derived.Test.YtlomieopppndeaaGreatDoorMatchWalk
import Derived.Test.YtlomieopppndeaaGreatDoorPlanIn
import Derived.Test.YtlomieopppndeaaGreatDoorSmall
namespace Go.Proofs.YtlomieopppndeaaGreatDoor
open Go.RowKit

def docE (y : Val) : Val := .mk 5 0 ⟨#[]⟩ [] [(⟨#[97]⟩, y)]
def fE (op : Int) (x : Val) : Flt := .mk op ⟨#[97]⟩ x []
theorem docE_good {y : Val} (h : GoodV 4 y) : GoodV 5 (docE y) :=
  ⟨by show (0 : Int) ≤ 5; decide, by show (5 : Int) ≤ 5; decide, ⟨by show (-9223372036854775808 : Int) ≤ 0; decide, by show (0 : Int) ≤ 9223372036854775807; decide⟩, empty_word, Nat.zero_le _, (fun y hy => by cases hy), by
    show List.Sublist [(⟨#[97]⟩ : ByteArray)] namesOf
    decide +kernel, (fun p hp => by
    have hp' : p ∈ [((⟨#[97]⟩ : ByteArray), y)] := hp
    simp only [List.mem_cons, List.not_mem_nil, or_false] at hp'
    subst hp'
    exact h), .inr (.inr rfl), .inr rfl, .inr rfl, .inl rfl, fun h => by cases h⟩
theorem docE_find (y : Val) : foundV (docE y) ⟨#[97]⟩ = some y := by
  have h1 : pathOk ⟨#[97]⟩ = true := by decide +kernel
  have h2 : partsOf ⟨#[97]⟩ = [⟨#[97]⟩] := by decide +kernel
  unfold foundV
  rw [if_pos h1, h2]
  simp [Val.find, Val.step, Val.get, docE, Val.kind, Val.fields]
theorem docE_R {w : World} {g : Nat} {y : Val} {la : Option Addr} {ln lc : Nat} {fa : Option Addr} {fn fc : Nat} (h : (KV 4).R w (fun _ => True) y [.int .i64 y.kind, .int .i64 y.int, .string y.text, .slice la ln lc, .slice fa fn fc]) (hg : w.heap[g]? = some (.cells #[.string ⟨#[97]⟩, .int .i64 y.kind, .int .i64 y.int, .string y.text, .slice la ln lc, .slice fa fn fc] 37 (0, 0))) : (KV 5).R w (fun _ => True) (docE y) [.int .i64 5, .int .i64 0, .string ⟨#[]⟩, .slice none 0 0, .slice (some ⟨g, 0, none⟩) 1 1] := by
  refine ⟨none, 0, 0, some ⟨g, 0, none⟩, 1, 1, rfl, ⟨by show (-9223372036854775808 : Int) ≤ 5; decide, by show (5 : Int) ≤ 9223372036854775807; decide⟩, ⟨by show (-9223372036854775808 : Int) ≤ 0; decide, by show (0 : Int) ≤ 9223372036854775807; decide⟩, by show 0 ≤ maxLen; exact Nat.zero_le _, Row.nil _ _ _, .inr ⟨g, 0, rfl, rfl, Nat.le_refl _, by unfold maxLen; decide, trivial, blk_lt hg, fun i x hx => ?_⟩⟩
  have hsz : (KFld (KV 4)).sz = 6 := rfl
  rw [hsz]
  have hc := blk_cells hg
  have hx' : [((⟨#[97]⟩ : ByteArray), y)][i]? = some x := hx
  match i, hx' with
  | 0, hx' =>
    injection hx' with hx'
    subst hx'
    refine ⟨_, ⟨_, rfl, by show 1 ≤ maxLen; unfold maxLen; decide, h⟩, fun j u hj => ?_⟩
    rw [hc]
    match j, hj with
    | 0, hj | 1, hj | 2, hj | 3, hj | 4, hj | 5, hj => exact hj
    | j + 6, hj => simp at hj
  | i + 1, hx' => simp at hx'
theorem fE_R {w : World} {op : Int} {p : ByteArray} {x : Val} {la : Option Addr} {ln lc : Nat} {fa : Option Addr} {fn fc : Nat} (ho : 0 ≤ op) (ho2 : op ≤ 9) (hp : p.size ≤ 16) (h : (KV 4).R w (fun _ => True) x [.int .i64 x.kind, .int .i64 x.int, .string x.text, .slice la ln lc, .slice fa fn fc]) : (KF 11 1).R w (fun _ => True) (.mk op p x []) [.int .i64 op, .string p, .int .i64 x.kind, .int .i64 x.int, .string x.text, .slice la ln lc, .slice fa fn fc, .slice none 0 0] :=
  ⟨[.int .i64 x.kind, .int .i64 x.int, .string x.text, .slice la ln lc, .slice fa fn fc], none, 0, 0, rfl, ⟨by show -9223372036854775808 ≤ op; omega, by show op ≤ 9223372036854775807; omega⟩, Nat.le_trans (show p.size ≤ 16 from hp) (by unfold maxLen; decide), KV_le (by decide : 4 ≤ 11) _ _ _ _ h, Row.nil _ _ _⟩
theorem leafE_subs (op : Int) (p : ByteArray) (x : Val) : SubsN 7 1 (.mk op p x []) := ⟨Nat.zero_le _, fun t ht => by cases ht⟩
theorem leafE_conds {op : Int} {p : ByteArray} {x : Val} (h : GoodV 4 x) (ho : 2 ≤ op) (ho2 : op ≤ 9) : ∀ c ∈ condsD 1 (.mk op p x []), CondV c := by
  intro c hc
  have e : condsD 1 (.mk op p x []) = [.mk op p x []] := if_neg (show ¬ op = 0 by omega)
  rw [e] at hc
  simp only [List.mem_cons, List.not_mem_nil, or_false] at hc
  subst hc
  exact ⟨GoodV_up 4 x h, by show 1 ≤ op; omega, ho2, fun h1 => by have h2 : op = 1 := h1; omega⟩
theorem leafE_bounds {op : Int} {p q : ByteArray} {x : Val} (ho : 2 ≤ op) : boundsD 11 1 (.mk op p x []) q = oneB 11 q (.mk op p x []) := by
  have e : condsD 1 (.mk op p x []) = [.mk op p x []] := if_neg (show ¬ op = 0 by omega)
  unfold boundsD
  rw [e]
  unfold foldB
  rw [List.foldl_cons, List.foldl_nil, bothB_e]
/-- The law of one condition. -/
theorem exact_law {op : Int} {x y : Val} (hop : op = 2 ∨ op = 4 ∨ op = 5 ∨ op = 6 ∨ op = 7) (hx : GoodV 4 x) (hy : GoodV 4 y) : ∃ lo hi o, boundsD 11 1 (fE op x) ⟨#[97]⟩ = (lo, hi, o, true) ∧ inB (keyB 11 y) lo hi = matchD 11 1 (fE op x) (docE y) := by
  have ho : 2 ≤ op := by omega
  have hb := bound_in (dv := 11) (x := y) (v := x) op ⟨#[97]⟩ [] (KeyOk_le (by decide : 4 ≤ 11) (KeyOk.of_good 4 y hy)) (KeyOk_le (by decide : 4 ≤ 11) (KeyOk.of_good 4 x hx)) (x.list.any (fun z => cmpD 11 y z == 0)) hop
  have hm : matchD 11 1 (fE op x) (docE y) = oneK op (cmpD 11 y x) (x.list.any (fun z => cmpD 11 y z == 0)) := by
    have e1 : matchD 11 1 (fE op x) (docE y) = condD 11 (fE op x) (docE y) := by
      show (if op = 0 then _ else if op = 1 then _ else _) = _
      rw [if_neg (by omega), if_neg (by omega)]
    rw [e1]
    unfold condD
    have e2 : foundV (docE y) (fE op x).path = some y := docE_find y
    rw [e2]
    show (if op = 9 then _ else _) = _
    rw [if_neg (by omega)]
    rfl
  refine ⟨_, _, op == 2, ?_, hb.trans hm.symm⟩
  · show boundsD 11 1 (.mk op ⟨#[97]⟩ x []) ⟨#[97]⟩ = _
    rw [leafE_bounds ho]
    unfold oneB
    rw [if_pos ⟨rfl, ho⟩]
    have h4 : (boundF 11 (.mk op ⟨#[97]⟩ x [])).2.2 = true := by
      rcases hop with rfl | rfl | rfl | rfl | rfl <;> rfl
    rw [h4]
    rfl
theorem or_bounds (x : Val) : (boundsD 11 2 (.mk 1 ⟨#[]⟩ Val.zero [.mk 2 ⟨#[97]⟩ x []]) ⟨#[97]⟩).2.2.2 = false := rfl
theorem ne_bounds (x : Val) : (boundsD 11 1 (.mk 3 ⟨#[97]⟩ x []) ⟨#[97]⟩).2.2.2 = false := rfl
theorem other_bounds (x : Val) : (boundsD 11 1 (.mk 2 ⟨#[98]⟩ x []) ⟨#[97]⟩).2.2.2 = false := rfl
theorem inE_calls (k fr tl : ByteArray) (id : Int) (dn : Bool) (w : World) : Calls Tryz.prog 23 #[.agg #[.string k, .int .i64 id], .agg #[.string fr, .string tl, .bool dn]] w fun e w' => e = .returned (.bool (inB k fr tl)) ∧ Below w.heap.size w w' := by
  obtain ⟨res, hres⟩ : ∃ r, r = inB k fr tl := ⟨_, rfl⟩
  rw [← hres]
  have HR := Ap.of hres
  clear hres
  have hb := bel_step (bel_alloc w (.cells #[.string k, .int .i64 id] 50)) (bel_alloc _ (.cells #[.string fr, .string tl, .bool dn] 44))
  have HB := Ap.of hb
  clear hb
  have h1 : (Op.bytesLess k.toList fr.toList = true ∧ ltA k fr) ∨ (Op.bytesLess k.toList fr.toList = false ∧ ¬ ltA k fr) := by
    rw [less_eq]
    by_cases h : ltA k fr
    · exact .inl ⟨by simpa using h, h⟩
    · exact .inr ⟨by simpa using h, h⟩
  have h2 : (tl = ⟨#[]⟩) ∨ ((tl.toList == []) = false ∧ ¬ tl.toList = [] ∧ tl ≠ ⟨#[]⟩ ∧ ((Op.bytesLess k.toList tl.toList = true ∧ ltA k tl) ∨ (Op.bytesLess k.toList tl.toList = false ∧ ¬ ltA k tl))) := by
    by_cases h : tl = ⟨#[]⟩
    · exact .inl h
    · have hn : ¬ tl.toList = [] := fun e => h ((tl_nil tl).1 e)
      refine .inr ⟨by simpa using hn, hn, h, ?_⟩
      rw [less_eq]
      by_cases h : ltA k tl
      · exact .inl ⟨by simpa using h, h⟩
      · exact .inr ⟨by simpa using h, h⟩
  rcases h1 with ⟨e1, l1⟩ | ⟨e1, l1⟩
  · have HE := Ap.of (show res = false by rw [HR.out]; unfold inB; simp [l1])
    clear HR l1 h2
    go_enter Tryz.func23, Tryz.ntmps23
    go_wp2_with fail
    go_ret
    exact ⟨by rw [HE.out]; rfl, HB.out⟩
  · rcases h2 with rfl | ⟨e2, e3, n2, ⟨e4, l2⟩ | ⟨e4, l2⟩⟩
    · have HE := Ap.of (show res = true by rw [HR.out]; unfold inB; simp [l1])
      clear HR l1
      go_enter Tryz.func23, Tryz.ntmps23
      go_wp2_with fail
      go_ret
      exact ⟨by rw [HE.out]; rfl, HB.out⟩
    · have HE := Ap.of (show res = true by rw [HR.out]; unfold inB; simp [l1, l2])
      clear HR l1 l2 n2
      go_enter Tryz.func23, Tryz.ntmps23
      go_wp2_with fail
      go_ret
      exact ⟨by rw [HE.out]; rfl, HB.out⟩
    · have HE := Ap.of (show res = false by rw [HR.out]; unfold inB; simp [l1, l2, n2])
      clear HR l1 l2 n2
      go_enter Tryz.func23, Tryz.ntmps23
      go_wp2_with fail
      go_ret
      exact ⟨by rw [HE.out]; rfl, HB.out⟩
theorem or_subs (x : Val) : SubsN 7 2 (.mk 1 ⟨#[]⟩ Val.zero [.mk 2 ⟨#[97]⟩ x []]) := ⟨by show 1 ≤ 7; decide, fun s hs => by
  have hs' : s ∈ [Flt.mk 2 ⟨#[97]⟩ x []] := hs
  simp only [List.mem_cons, List.not_mem_nil, or_false] at hs'
  subst hs'
  exact leafE_subs 2 _ x⟩
theorem or_conds (x : Val) : ∀ c ∈ condsD 2 (.mk 1 ⟨#[]⟩ Val.zero [.mk 2 ⟨#[97]⟩ x []]), CondV c := by
  intro c hc
  have e : condsD 2 (.mk 1 ⟨#[]⟩ Val.zero [.mk 2 ⟨#[97]⟩ x []]) = [.mk 1 ⟨#[]⟩ Val.zero [.mk 2 ⟨#[97]⟩ x []]] := rfl
  rw [e] at hc
  simp only [List.mem_cons, List.not_mem_nil, or_false] at hc
  subst hc
  exact ⟨good_zero, by show (1 : Int) ≤ 1; decide, by show (1 : Int) ≤ 9; decide, fun _ => rfl⟩
theorem or_R {w : World} {g : Nat} {x : Val} {la : Option Addr} {ln lc : Nat} {fa : Option Addr} {fn fc : Nat} (h : (KV 4).R w (fun _ => True) x [.int .i64 x.kind, .int .i64 x.int, .string x.text, .slice la ln lc, .slice fa fn fc]) (hg : w.heap[g]? = some (.cells #[.int .i64 2, .string ⟨#[97]⟩, .int .i64 x.kind, .int .i64 x.int, .string x.text, .slice la ln lc, .slice fa fn fc, .slice none 0 0] 42 (0, 0))) : (KF 11 2).R w (fun _ => True) (.mk 1 ⟨#[]⟩ Val.zero [.mk 2 ⟨#[97]⟩ x []]) [.int .i64 1, .string ⟨#[]⟩, .int .i64 0, .int .i64 0, .string ⟨#[]⟩, .slice none 0 0, .slice none 0 0, .slice (some ⟨g, 0, none⟩) 1 1] := by
  refine ⟨[.int .i64 0, .int .i64 0, .string ⟨#[]⟩, .slice none 0 0, .slice none 0 0], some ⟨g, 0, none⟩, 1, 1, rfl, ⟨by show -9223372036854775808 ≤ (1 : Int); decide, by show (1 : Int) ≤ 9223372036854775807; decide⟩, by show 0 ≤ maxLen; exact Nat.zero_le _, KV_zero _ _ 10, .inr ⟨g, 0, rfl, rfl, Nat.le_refl _, by unfold maxLen; decide, trivial, blk_lt hg, fun i z hz => ?_⟩⟩
  have hz' : [Flt.mk 2 ⟨#[97]⟩ x []][i]? = some z := hz
  have hsz : (KF 11 1).sz = 8 := rfl
  rw [hsz]
  have hc := blk_cells hg
  match i, hz' with
  | 0, hz' =>
    injection hz' with hz'
    subst hz'
    refine ⟨_, fE_R (by decide) (by decide) (by decide) h, fun j u hj => ?_⟩
    rw [hc]
    match j, hj with
    | 0, hj | 1, hj | 2, hj | 3, hj | 4, hj | 5, hj | 6, hj | 7, hj => exact hj
    | j + 8, hj => simp at hj
  | i + 1, hz' => simp at hz'
structure PxG (w : World) : Prop where
  par : ParG w
  fin : FinG w
  laid : Laid w
theorem PxG.below {w w' : World} (h : PxG w) (hb : Below w.heap.size w w') : PxG w' := ⟨h.par.below hb, h.fin.below hb, h.laid.below hb⟩
set_option maxRecDepth 100000 in
set_option maxHeartbeats 16000000 in
theorem exact_calls (c d : Int) (w : World) (hc : 0 ≤ c ∧ c ≤ 255) (hd : 0 ≤ d ∧ d ≤ 255) (G : PxG w) :
    Calls Tryz.prog 4 #[.int .u8 c, .int .u8 d] w fun e w' => e = .returned (.bool true) ∧ Below w.heap.size w w' := by
  have GG := Ap.of G
  have HC := Ap.of hc
  have HD := Ap.of hd
  clear G hc hd
  go_enter Tryz.func4, Tryz.ntmps4
  go_wp2_with fail
  refine (pawake_calls w GG.out.par).mono ?_
  rintro e w1 ⟨rfl, hb⟩
  have HB1 := Ap.of hb
  have G1 := Ap.of (GG.out.below hb)
  clear hb
  have HA1 := Ap.of (bel_alloc w1 (.cells #[.int .u8 c] 5))
  have HOF1 := Ap.of (of_calls (some ⟨w1.heap.size, 0, none⟩) 1 1 (w1.alloc (.cells #[.int .u8 c] 5)) _ (fun k hk => by simp at hk ⊢; omega) (G1.out.laid.below HA1.out) (Bs.one (blk_new rfl) HC.out.1 HC.out.2))
  go_wp2_with fail
  refine HOF1.out.mono ?_
  rintro e w2 ⟨x, la, ln, lc, fa, fn, fc, rfl, hx, hgx, hb⟩
  have hb2 := bel_step HA1.out hb
  have HB2 := Ap.of (bel_step HB1.out hb2)
  have G2 := Ap.of (G1.out.below hb2)
  have HX2 := Ap.of ((KV 4).mono (ok' := fun _ => True) (fun _ _ => trivial) hx)
  have HGX := Ap.of hgx
  clear hx hgx hb hb2 HOF1 HA1
  have HA2 := Ap.of (bel_alloc w2 (.cells #[.int .u8 d] 5))
  have HOF2 := Ap.of (of_calls (some ⟨w2.heap.size, 0, none⟩) 1 1 (w2.alloc (.cells #[.int .u8 d] 5)) _ (fun k hk => by simp at hk ⊢; omega) (G2.out.laid.below HA2.out) (Bs.one (blk_new rfl) HD.out.1 HD.out.2))
  go_wp2_with fail
  refine HOF2.out.mono ?_
  rintro e w3 ⟨y, la2, ln2, lc2, fa2, fn2, fc2, rfl, hy, hgy, hb⟩
  have hb3 := bel_step HA2.out hb
  have HB3 := Ap.of (bel_step HB2.out hb3)
  have G3 := Ap.of (G2.out.below hb3)
  have HX3 := Ap.of (Knd.below HX2.out hb3)
  have HY3 := Ap.of ((KV 4).mono (ok' := fun _ => True) (fun _ _ => trivial) hy)
  have HGY := Ap.of hgy
  clear hy hgy hb hb3 HOF2 HA2
  go_upto_region 6 with fail
  have hbU := (bel_step (bel_step (bel_step (bel_step (bel_alloc w3 (.cells #[.int .i64 x.kind, .int .i64 x.int, .string x.text, .slice la ln lc, .slice fa fn fc] 28)) (bel_alloc _ (.cells #[.int .i64 y.kind, .int .i64 y.int, .string y.text, .slice la2 ln2 lc2, .slice fa2 fn2 fc2] 28))) (bel_alloc _ (.cells #[.string ⟨#[97]⟩, .int .i64 y.kind, .int .i64 y.int, .string y.text, .slice la2 ln2 lc2, .slice fa2 fn2 fc2] 37))) (bel_alloc _ (.cells #[.int .i64 5, .int .i64 0, .string ⟨#[]⟩, .slice none 0 0, .slice (some ⟨w3.heap.size + 1 + 1, 0, none⟩) 1 1] 28))) (bel_alloc _ (.cells #[.int .i64 2, .int .i64 4, .int .i64 5, .int .i64 6, .int .i64 7] 38)))
  have BX := Ap.of (blk_old (o' := (.cells #[.int .i64 2, .int .i64 4, .int .i64 5, .int .i64 6, .int .i64 7] 38)) (blk_old (o' := (.cells #[.int .i64 5, .int .i64 0, .string ⟨#[]⟩, .slice none 0 0, .slice (some ⟨w3.heap.size + 1 + 1, 0, none⟩) 1 1] 28)) (blk_old (o' := (.cells #[.string ⟨#[97]⟩, .int .i64 y.kind, .int .i64 y.int, .string y.text, .slice la2 ln2 lc2, .slice fa2 fn2 fc2] 37)) (blk_old (o' := (.cells #[.int .i64 y.kind, .int .i64 y.int, .string y.text, .slice la2 ln2 lc2, .slice fa2 fn2 fc2] 28)) (blk_new (w := w3) (k := w3.heap.size) (o := (.cells #[.int .i64 x.kind, .int .i64 x.int, .string x.text, .slice la ln lc, .slice fa fn fc] 28)) rfl)))))
  have BY := Ap.of (blk_old (o' := (.cells #[.int .i64 2, .int .i64 4, .int .i64 5, .int .i64 6, .int .i64 7] 38)) (blk_old (o' := (.cells #[.int .i64 5, .int .i64 0, .string ⟨#[]⟩, .slice none 0 0, .slice (some ⟨w3.heap.size + 1 + 1, 0, none⟩) 1 1] 28)) (blk_old (o' := (.cells #[.string ⟨#[97]⟩, .int .i64 y.kind, .int .i64 y.int, .string y.text, .slice la2 ln2 lc2, .slice fa2 fn2 fc2] 37)) (blk_new (w := (w3.alloc (.cells #[.int .i64 x.kind, .int .i64 x.int, .string x.text, .slice la ln lc, .slice fa fn fc] 28))) (k := w3.heap.size + 1) (o := (.cells #[.int .i64 y.kind, .int .i64 y.int, .string y.text, .slice la2 ln2 lc2, .slice fa2 fn2 fc2] 28)) (by simp)))))
  have BF := Ap.of (blk_old (o' := (.cells #[.int .i64 2, .int .i64 4, .int .i64 5, .int .i64 6, .int .i64 7] 38)) (blk_old (o' := (.cells #[.int .i64 5, .int .i64 0, .string ⟨#[]⟩, .slice none 0 0, .slice (some ⟨w3.heap.size + 1 + 1, 0, none⟩) 1 1] 28)) (blk_new (w := ((w3.alloc (.cells #[.int .i64 x.kind, .int .i64 x.int, .string x.text, .slice la ln lc, .slice fa fn fc] 28)).alloc (.cells #[.int .i64 y.kind, .int .i64 y.int, .string y.text, .slice la2 ln2 lc2, .slice fa2 fn2 fc2] 28))) (k := w3.heap.size + 1 + 1) (o := (.cells #[.string ⟨#[97]⟩, .int .i64 y.kind, .int .i64 y.int, .string y.text, .slice la2 ln2 lc2, .slice fa2 fn2 fc2] 37)) (by simp))))
  have BD := Ap.of (blk_old (o' := (.cells #[.int .i64 2, .int .i64 4, .int .i64 5, .int .i64 6, .int .i64 7] 38)) (blk_new (w := (((w3.alloc (.cells #[.int .i64 x.kind, .int .i64 x.int, .string x.text, .slice la ln lc, .slice fa fn fc] 28)).alloc (.cells #[.int .i64 y.kind, .int .i64 y.int, .string y.text, .slice la2 ln2 lc2, .slice fa2 fn2 fc2] 28)).alloc (.cells #[.string ⟨#[97]⟩, .int .i64 y.kind, .int .i64 y.int, .string y.text, .slice la2 ln2 lc2, .slice fa2 fn2 fc2] 37))) (k := w3.heap.size + 1 + 1 + 1) (o := (.cells #[.int .i64 5, .int .i64 0, .string ⟨#[]⟩, .slice none 0 0, .slice (some ⟨w3.heap.size + 1 + 1, 0, none⟩) 1 1] 28)) (by simp)))
  have BA := Ap.of (blk_new (w := ((((w3.alloc (.cells #[.int .i64 x.kind, .int .i64 x.int, .string x.text, .slice la ln lc, .slice fa fn fc] 28)).alloc (.cells #[.int .i64 y.kind, .int .i64 y.int, .string y.text, .slice la2 ln2 lc2, .slice fa2 fn2 fc2] 28)).alloc (.cells #[.string ⟨#[97]⟩, .int .i64 y.kind, .int .i64 y.int, .string y.text, .slice la2 ln2 lc2, .slice fa2 fn2 fc2] 37)).alloc (.cells #[.int .i64 5, .int .i64 0, .string ⟨#[]⟩, .slice none 0 0, .slice (some ⟨w3.heap.size + 1 + 1, 0, none⟩) 1 1] 28))) (k := w3.heap.size + 1 + 1 + 1 + 1) (o := (.cells #[.int .i64 2, .int .i64 4, .int .i64 5, .int .i64 6, .int .i64 7] 38)) (by simp))
  have HBU := Ap.of (bel_step HB3.out hbU)
  have GU := Ap.of (G3.out.below hbU)
  have HXU := Ap.of (Knd.below HX3.out hbU)
  have HYU := Ap.of (Knd.below HY3.out hbU)
  have HDU := Ap.of (docE_R HYU.out BF.out)
  clear hbU HX3 HY3 G3 HB3 BF
  generalize (((((w3.alloc (.cells #[.int .i64 x.kind, .int .i64 x.int, .string x.text, .slice la ln lc, .slice fa fn fc] 28)).alloc (.cells #[.int .i64 y.kind, .int .i64 y.int, .string y.text, .slice la2 ln2 lc2, .slice fa2 fn2 fc2] 28)).alloc (.cells #[.string ⟨#[97]⟩, .int .i64 y.kind, .int .i64 y.int, .string y.text, .slice la2 ln2 lc2, .slice fa2 fn2 fc2] 37)).alloc (.cells #[.int .i64 5, .int .i64 0, .string ⟨#[]⟩, .slice none 0 0, .slice (some ⟨w3.heap.size + 1 + 1, 0, none⟩) 1 1] 28)).alloc (.cells #[.int .i64 2, .int .i64 4, .int .i64 5, .int .i64 6, .int .i64 7] 38)) = U at *
  generalize w3.heap.size + 1 + 1 + 1 + 1 = ga at *
  generalize w3.heap.size + 1 + 1 + 1 = gd at *
  generalize w3.heap.size + 1 + 1 = gf at *
  generalize w3.heap.size + 1 = gy at *
  obtain ⟨gx, hgx⟩ : ∃ g, g = w3.heap.size := ⟨_, rfl⟩
  rw [← hgx] at BX
  rw [← hgx]
  have HGG := Ap.of hgx
  clear hgx
  go_loopw [39] (fun vi wr => ∃ k : Nat, k ≤ 5 ∧ vi = .int .i64 k ∧ Ap (Below U.heap.size U wr)) (fun vi _ => 5 - (intOf vi).toNat)
  case atStart => exact ⟨0, Nat.zero_le _, rfl, Ap.of (Below.refl _ _)⟩
  case round =>
    obtain ⟨k, hk, rfl, BL⟩ := hrel
    by_cases hlt : k < 5
    · obtain ⟨op, hop, hcell⟩ : ∃ op : Int, (op = 2 ∨ op = 4 ∨ op = 5 ∨ op = 6 ∨ op = 7) ∧ wr.cell? ⟨ga, k, none⟩ = some (.int .i64 op) := by
        have e := blk_cells (blk_bel BA.out BL.out)
        rcases (show k = 0 ∨ k = 1 ∨ k = 2 ∨ k = 3 ∨ k = 4 by omega) with rfl | rfl | rfl | rfl | rfl
        · exact ⟨2, .inl rfl, e 0⟩
        · exact ⟨4, .inr (.inl rfl), e 1⟩
        · exact ⟨5, .inr (.inr (.inl rfl)), e 2⟩
        · exact ⟨6, .inr (.inr (.inr (.inl rfl))), e 3⟩
        · exact ⟨7, .inr (.inr (.inr (.inr rfl))), e 4⟩
      have hlt' : (k : Int) < 5 := by omega
      have HLT := Ap.of hlt
      have lcell := World.block_lt_of_cell? _ _ hcell
      obtain ⟨lo, hi, oc, hbd, hin⟩ := exact_law hop HGX.out HGY.out
      have HOP := Ap.of (show 2 ≤ op ∧ op ≤ 9 by omega)
      have HIN := Ap.of hin
      have HHB := Ap.of hbd
      clear hin hbd hop
      have hba := bel_alloc wr (.cells #[.int .i64 op, .string ⟨#[97]⟩, .int .i64 x.kind, .int .i64 x.int, .string x.text, .slice la ln lc, .slice fa fn fc, .slice none 0 0] 42)
      have HB1 := Ap.of (bel_stepB BL.out BL.out.size hba)
      have BT := Ap.of (blk_new (w := wr) (k := wr.heap.size) (o := (.cells #[.int .i64 op, .string ⟨#[97]⟩, .int .i64 x.kind, .int .i64 x.int, .string x.text, .slice la ln lc, .slice fa fn fc, .slice none 0 0] 42)) rfl)
      have bx1 := blk_bel BX.out BL.out
      have cx1 := blk_cells bx1
      have lx1 := blk_lt bx1
      have HBO := Ap.of (bounds_calls 1 11 (fE op x) la ln lc fa fn fc none 0 0 ⟨#[97]⟩ (wr.alloc (.cells #[.int .i64 op, .string ⟨#[97]⟩, .int .i64 x.kind, .int .i64 x.int, .string x.text, .slice la ln lc, .slice fa fn fc, .slice none 0 0] 42)) (by decide) (by decide) (leafE_subs op _ x) (leafE_conds HGX.out HOP.out.1 HOP.out.2) (GU.out.below HB1.out).par (fE_R (Int.le_trans (by decide) HOP.out.1) HOP.out.2 (by decide) (Knd.below HXU.out HB1.out)))
      rw [HHB.out] at HBO
      unfold BndP at HBO
      clear hba bx1
      go_wp2_with fail
      refine HBO.out.mono ?_
      rintro e w5 ⟨rfl, hb⟩
      have hb5 := bel_step hb (bel_alloc w5 (.cells #[.string lo, .string hi, .bool false] 44))
      have BT5 := Ap.of (blk_bel BT.out hb5)
      have BR5 := Ap.of (blk_new (w := w5) (k := w5.heap.size) (o := .cells #[.string lo, .string hi, .bool false] 44) rfl)
      have HB5 := Ap.of (bel_stepB HB1.out HB1.out.size hb5)
      have BY5 := Ap.of (blk_bel BY.out HB5.out)
      have BD5 := Ap.of (blk_bel BD.out HB5.out)
      clear hb hb5 HBO HB1 BT cx1 lx1 hcell lcell
      go_upto_region 10 with fail
      generalize w5.alloc (.cells #[.string lo, .string hi, .bool false] 44) = V at *
      generalize w5.heap.size = g11 at *
      generalize wr.heap.size = g10 at *
      have HKY := Ap.of HGY.out
      have HP := Ap.of (fun W (hW : Below V.heap.size V W) => lput_calls 4 4 11 y la2 ln2 lc2 fa2 fn2 fc2 W (by decide) (by decide) (by decide) HGY.out (Knd.below HYU.out (bel_stepB HB5.out HB5.out.size hW)))
      have HM := Ap.of (fun W (hW : Below V.heap.size V W) => match_calls 9 1 (fE op x) la ln lc fa fn fc none 0 0 (docE y) none 0 0 (some ⟨gf, 0, none⟩) 1 1 4 W (Few.of_good (docE_good HGY.out)) ⟨by show (1 : Nat) < 4294967281; decide, fun s hs => by cases hs⟩ (GU.out.below (bel_stepB HB5.out HB5.out.size hW)).par (GU.out.below (bel_stepB HB5.out HB5.out.size hW)).fin (fE_R (Int.le_trans (by decide) HOP.out.1) HOP.out.2 (by decide) (Knd.below HXU.out (bel_stepB HB5.out HB5.out.size hW))) (KV_le (by decide : 5 ≤ 11) _ _ _ _ (Knd.below HDU.out (bel_stepB HB5.out HB5.out.size hW))))
      have HI := Ap.of (fun W => inE_calls (keyB 11 y) lo hi 0 false W)
      rw [HIN.out] at HI
      unfold PutP at HP
      generalize matchD 11 1 (fE op x) (docE y) = m at *
      generalize keyB 11 y = ky at *
      have HPA := Ap.of (show ∀ W : World, Below V.heap.size V W → Calls Tryz.prog 24 #[.agg #[.int .i64 y.kind, .int .i64 y.int, .string y.text, .slice la2 ln2 lc2, .slice fa2 fn2 fc2]] W (fun e w' => e = .returned (.string ky) ∧ Below W.heap.size W w') from HP.out)
      have HMA := Ap.of (show ∀ W : World, Below V.heap.size V W → Calls Tryz.prog 25 #[.agg #[.int .i64 op, .string ⟨#[97]⟩, .int .i64 x.kind, .int .i64 x.int, .string x.text, .slice la ln lc, .slice fa fn fc, .slice none 0 0], .agg #[.int .i64 5, .int .i64 0, .string ⟨#[]⟩, .slice none 0 0, .slice (some ⟨gf, 0, none⟩) 1 1]] W (fun e w' => e = .returned (.bool m) ∧ Below W.heap.size W w') from HM.out)
      clear HP HM HIN HHB
      have hks : ∀ W, Below V.heap.size V W → (Below V.heap.size V W ∧ W.cell? ⟨gy, 0, none⟩ = some (.int .i64 y.kind) ∧ W.cell? ⟨gy, 1, none⟩ = some (.int .i64 y.int) ∧ W.cell? ⟨gy, 2, none⟩ = some (.string y.text) ∧ W.cell? ⟨gy, 3, none⟩ = some (.slice la2 ln2 lc2) ∧ W.cell? ⟨gy, 4, none⟩ = some (.slice fa2 fn2 fc2) ∧ W.cell? ⟨g11, 0, none⟩ = some (.string lo) ∧ W.cell? ⟨g11, 1, none⟩ = some (.string hi) ∧ W.cell? ⟨g11, 2, none⟩ = some (.bool false) ∧ W.cell? ⟨g10, 0, none⟩ = some (.int .i64 op) ∧ W.cell? ⟨g10, 1, none⟩ = some (.string ⟨#[97]⟩) ∧ W.cell? ⟨g10, 2, none⟩ = some (.int .i64 x.kind) ∧ W.cell? ⟨g10, 3, none⟩ = some (.int .i64 x.int) ∧ W.cell? ⟨g10, 4, none⟩ = some (.string x.text) ∧ W.cell? ⟨g10, 5, none⟩ = some (.slice la ln lc) ∧ W.cell? ⟨g10, 6, none⟩ = some (.slice fa fn fc) ∧ W.cell? ⟨g10, 7, none⟩ = some (.slice none 0 0) ∧ W.cell? ⟨gd, 0, none⟩ = some (.int .i64 5) ∧ W.cell? ⟨gd, 1, none⟩ = some (.int .i64 0) ∧ W.cell? ⟨gd, 2, none⟩ = some (.string ⟨#[]⟩) ∧ W.cell? ⟨gd, 3, none⟩ = some (.slice none 0 0) ∧ W.cell? ⟨gd, 4, none⟩ = some (.slice (some ⟨gf, 0, none⟩) 1 1)) := by
        intro W ho
        have ey := blk_cells (blk_bel BY5.out ho)
        have er := blk_cells (blk_bel BR5.out ho)
        have et := blk_cells (blk_bel BT5.out ho)
        have ed := blk_cells (blk_bel BD5.out ho)
        exact ⟨ho, ey 0, ey 1, ey 2, ey 3, ey 4, er 0, er 1, er 2, et 0, et 1, et 2, et 3, et 4, et 5, et 6, et 7, ed 0, ed 1, ed 2, ed 3, ed 4⟩
      have KS := Ap.of hks
      clear hks
      go_region_held3 (fun W => Below V.heap.size V W ∧ W.cell? ⟨gy, 0, none⟩ = some (.int .i64 y.kind) ∧ W.cell? ⟨gy, 1, none⟩ = some (.int .i64 y.int) ∧ W.cell? ⟨gy, 2, none⟩ = some (.string y.text) ∧ W.cell? ⟨gy, 3, none⟩ = some (.slice la2 ln2 lc2) ∧ W.cell? ⟨gy, 4, none⟩ = some (.slice fa2 fn2 fc2) ∧ W.cell? ⟨g11, 0, none⟩ = some (.string lo) ∧ W.cell? ⟨g11, 1, none⟩ = some (.string hi) ∧ W.cell? ⟨g11, 2, none⟩ = some (.bool false) ∧ W.cell? ⟨g10, 0, none⟩ = some (.int .i64 op) ∧ W.cell? ⟨g10, 1, none⟩ = some (.string ⟨#[97]⟩) ∧ W.cell? ⟨g10, 2, none⟩ = some (.int .i64 x.kind) ∧ W.cell? ⟨g10, 3, none⟩ = some (.int .i64 x.int) ∧ W.cell? ⟨g10, 4, none⟩ = some (.string x.text) ∧ W.cell? ⟨g10, 5, none⟩ = some (.slice la ln lc) ∧ W.cell? ⟨g10, 6, none⟩ = some (.slice fa fn fc) ∧ W.cell? ⟨g10, 7, none⟩ = some (.slice none 0 0) ∧ W.cell? ⟨gd, 0, none⟩ = some (.int .i64 5) ∧ W.cell? ⟨gd, 1, none⟩ = some (.int .i64 0) ∧ W.cell? ⟨gd, 2, none⟩ = some (.string ⟨#[]⟩) ∧ W.cell? ⟨gd, 3, none⟩ = some (.slice none 0 0) ∧ W.cell? ⟨gd, 4, none⟩ = some (.slice (some ⟨gf, 0, none⟩) 1 1))
        (first
          | with_reducible assumption
          | (with_reducible (refine KS.out _ ?_; exact Below.refl _ _))
          | (with_reducible (refine KS.out _ ?_; apply Below.drew; exact Below.refl _ _))
          | (with_reducible (refine KS.out _ ?_; apply bel_stepB _ _ hb3; exact And.left (by assumption); exact (Below.size (And.left (by assumption)))))
          | (with_reducible (refine KS.out _ ?_; apply Below.alloc; exact (And.left (by assumption)); exact (Below.size (And.left (by assumption))))))
        (first
          | (go_at_call 24; (with_reducible apply Calls.mono); ((with_reducible apply HPA.out); (exact And.left (by assumption))); rintro en w9 ⟨rfl, hb3⟩)
          | (go_at_call 23; (with_reducible apply Calls.mono); (with_reducible apply HI.out); rintro en w9 ⟨rfl, hb3⟩)
          | (go_at_call 25; (with_reducible apply Calls.mono); ((with_reducible apply HMA.out); (exact And.left (by assumption))); rintro en w9 ⟨rfl, hb3⟩))
      all_goals
        have HBL := Ap.of (show Below V.heap.size V w9 from And.left (by assumption))
        have HBE := Ap.of (bel_stepB HB5.out HB5.out.size HBL.out)
        cases m
        all_goals
          go_wp2_with fail
          refine ⟨⟨k + 1, by have := HLT.out; omega, by simp, HBE⟩, ?_⟩
          have := HLT.out
          simp [intOf]
          omega
    · obtain rfl : k = 5 := by omega
      have bx1 := blk_bel BX.out BL.out
      have cx1 := blk_cells bx1
      have lx1 := blk_lt bx1
      have hba := bel_alloc wr (.cells #[.int .i64 3, .string ⟨#[97]⟩, .int .i64 x.kind, .int .i64 x.int, .string x.text, .slice la ln lc, .slice fa fn fc, .slice none 0 0] 42)
      have HB1 := Ap.of (bel_stepB BL.out BL.out.size hba)
      have HBO := Ap.of (bounds_calls 1 11 (.mk 3 ⟨#[97]⟩ x []) la ln lc fa fn fc none 0 0 ⟨#[97]⟩ (wr.alloc (.cells #[.int .i64 3, .string ⟨#[97]⟩, .int .i64 x.kind, .int .i64 x.int, .string x.text, .slice la ln lc, .slice fa fn fc, .slice none 0 0] 42)) (by decide) (by decide) (leafE_subs 3 _ x) (leafE_conds HGX.out (by decide) (by decide)) (GU.out.below HB1.out).par (fE_R (by decide) (by decide) (by decide) (Knd.below HXU.out HB1.out)))
      unfold BndP at HBO
      have hn : (boundsD 11 1 (.mk 3 ⟨#[97]⟩ x []) ⟨#[97]⟩).2.2.2 = false := ne_bounds x
      generalize boundsD 11 1 (.mk 3 ⟨#[97]⟩ x []) ⟨#[97]⟩ = r at *
      obtain ⟨r1, r2, r3, r4⟩ := r
      obtain rfl : r4 = false := hn
      clear hba bx1
      go_wp2_with fail
      refine HBO.out.mono ?_
      rintro e w5 ⟨rfl, hb⟩
      have hb5 := bel_step hb (bel_alloc w5 (.cells #[.string r1, .string r2, .bool false] 44))
      have HB5 := Ap.of (bel_stepB HB1.out HB1.out.size hb5)
      clear hb hb5 HBO HB1 cx1 lx1
      go_upto_region 15 with fail
      generalize w5.alloc (.cells #[.string r1, .string r2, .bool false] 44) = V at *
      have bx5 := blk_bel BX.out HB5.out
      have cx5 := blk_cells bx5
      have lx5 := blk_lt bx5
      have hbo := (bel_step (bel_alloc V (.cells #[.int .i64 2, .string ⟨#[97]⟩, .int .i64 x.kind, .int .i64 x.int, .string x.text, .slice la ln lc, .slice fa fn fc, .slice none 0 0] 42)) (bel_alloc _ (.cells #[.int .i64 1, .string ⟨#[]⟩, .int .i64 0, .int .i64 0, .string ⟨#[]⟩, .slice none 0 0, .slice none 0 0, .slice (some ⟨V.heap.size, 0, none⟩) 1 1] 42)))
      have BS := Ap.of (blk_old (o' := (.cells #[.int .i64 1, .string ⟨#[]⟩, .int .i64 0, .int .i64 0, .string ⟨#[]⟩, .slice none 0 0, .slice none 0 0, .slice (some ⟨V.heap.size, 0, none⟩) 1 1] 42)) (blk_new (w := V) (k := V.heap.size) (o := (.cells #[.int .i64 2, .string ⟨#[97]⟩, .int .i64 x.kind, .int .i64 x.int, .string x.text, .slice la ln lc, .slice fa fn fc, .slice none 0 0] 42)) rfl))
      have HB6 := Ap.of (bel_stepB HB5.out HB5.out.size hbo)
      have HBQ := Ap.of (bounds_calls 2 11 (.mk 1 ⟨#[]⟩ Val.zero [.mk 2 ⟨#[97]⟩ x []]) none 0 0 none 0 0 (some ⟨V.heap.size, 0, none⟩) 1 1 ⟨#[97]⟩ ((V.alloc (.cells #[.int .i64 2, .string ⟨#[97]⟩, .int .i64 x.kind, .int .i64 x.int, .string x.text, .slice la ln lc, .slice fa fn fc, .slice none 0 0] 42)).alloc (.cells #[.int .i64 1, .string ⟨#[]⟩, .int .i64 0, .int .i64 0, .string ⟨#[]⟩, .slice none 0 0, .slice none 0 0, .slice (some ⟨V.heap.size, 0, none⟩) 1 1] 42)) (by decide) (by decide) (or_subs x) (or_conds x) (GU.out.below HB6.out).par (or_R (Knd.below HXU.out HB6.out) BS.out))
      unfold BndP at HBQ
      have hn := or_bounds x
      generalize boundsD 11 2 (.mk 1 ⟨#[]⟩ Val.zero [.mk 2 ⟨#[97]⟩ x []]) ⟨#[97]⟩ = s at *
      obtain ⟨s1, s2, s3, s4⟩ := s
      obtain rfl : s4 = false := hn
      clear hbo bx5
      go_wp2_with fail
      refine HBQ.out.mono ?_
      rintro e w7 ⟨rfl, hb⟩
      have hb7 := bel_step hb (bel_alloc w7 (.cells #[.string s1, .string s2, .bool false] 44))
      have HB7 := Ap.of (bel_stepB HB6.out HB6.out.size hb7)
      clear hb hb7 HBQ HB6 BS cx5 lx5
      go_upto_region 17 with fail
      generalize w7.alloc (.cells #[.string s1, .string s2, .bool false] 44) = T at *
      have bx7 := blk_bel BX.out HB7.out
      have cx7 := blk_cells bx7
      have lx7 := blk_lt bx7
      have HBP := Ap.of (bounds_calls 1 11 (.mk 2 ⟨#[98]⟩ x []) la ln lc fa fn fc none 0 0 ⟨#[97]⟩ T (by decide) (by decide) (leafE_subs 2 _ x) (leafE_conds HGX.out (by decide) (by decide)) (GU.out.below HB7.out).par (fE_R (by decide) (by decide) (by decide) (Knd.below HXU.out HB7.out)))
      unfold BndP at HBP
      have hn := other_bounds x
      generalize boundsD 11 1 (.mk 2 ⟨#[98]⟩ x []) ⟨#[97]⟩ = t at *
      obtain ⟨t1, t2, t3, t4⟩ := t
      obtain rfl : t4 = false := hn
      clear bx7
      go_wp2_with fail
      refine HBP.out.mono ?_
      rintro e w8 ⟨rfl, hb⟩
      have HBE := Ap.of (bel_step HBU.out (bel_stepB HB7.out HB7.out.size (bel_step hb (bel_alloc w8 (.cells #[.string t1, .string t2, .bool false] 44)))))
      clear hb
      go_wp2_with fail
      go_ret
      exact ⟨rfl, HBE.out⟩
end Go.Proofs.YtlomieopppndeaaGreatDoor
