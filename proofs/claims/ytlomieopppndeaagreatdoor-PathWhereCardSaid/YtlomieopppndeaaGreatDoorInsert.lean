/- slices.Insert of one field into a row of one's own. -/
import Derived.Test.YtlomieopppndeaaGreatDoorClone
import Derived.Deep.RegionLaw
namespace Go.Proofs.YtlomieopppndeaaGreatDoor
open Go.RowKit

theorem splice_shift (L X1 X2 C : List Value) (b a : Nat) (hb : L.take b = X1) (_hbl : b ≤ L.length) (ha : a = b + C.length) (hfit : a + X2.length ≤ L.length) :
    splice (splice L a X2) b C = X1 ++ (C ++ (X2 ++ L.drop (a + X2.length))) := by
  have e1 : splice L a X2 = L.take a ++ (X2 ++ L.drop (a + X2.length)) := rfl
  have hla : (L.take a).length = a := by rw [List.length_take]; omega
  have e2 : (splice L a X2).take b = X1 := by
    rw [e1, List.take_append_of_le_length (by omega), List.take_take, Nat.min_eq_left (by omega), hb]
  have e3 : (splice L a X2).drop (b + C.length) = X2 ++ L.drop (a + X2.length) := by
    rw [e1, ← ha, List.drop_left' hla]
  show (splice L a X2).take b ++ (C ++ (splice L a X2).drop (b + C.length)) = _
  rw [e2, e3]
theorem splice_grow (X1 Z X2 C : List Value) (b a : Nat) (hb : b = X1.length) (ha : a = b + C.length) : ∃ R, splice (splice (X1 ++ Z) b C) a X2 = X1 ++ (C ++ (X2 ++ R)) := by
  have e1 : splice (X1 ++ Z) b C = X1 ++ (C ++ (X1 ++ Z).drop (b + C.length)) := by
    show (X1 ++ Z).take b ++ _ = _
    rw [List.take_left' hb.symm]
  have e2 : (splice (X1 ++ Z) b C).take a = X1 ++ C := by
    rw [e1, ← List.append_assoc]
    exact List.take_left' (by rw [List.length_append]; omega)
  refine ⟨(splice (X1 ++ Z) b C).drop (a + X2.length), ?_⟩
  show (splice (X1 ++ Z) b C).take a ++ (X2 ++ _) = _
  rw [e2, List.append_assoc]
theorem ins_flat (css : List (List Value)) (C : List Value) (i : Nat) : (css.take i ++ C :: css.drop i).flatten = (css.take i).flatten ++ (C ++ (css.drop i).flatten) := by simp
theorem ins_get {α β : Type} {xs : List α} {ys : List β} (hl : ys.length = xs.length) {R : α → β → Prop} {x : α} {y : β} {i : Nat} (hi : i ≤ xs.length) (hr : ∀ (j : Nat) (a : α), xs[j]? = some a → ∃ b, ys[j]? = some b ∧ R a b) (hx : R x y) :
    ∀ (j : Nat) (a : α), (xs.take i ++ x :: xs.drop i)[j]? = some a → ∃ b, (ys.take i ++ y :: ys.drop i)[j]? = some b ∧ R a b := by
  intro j a hj
  have l1 : (xs.take i).length = i := by rw [List.length_take]; omega
  have l2 : (ys.take i).length = i := by rw [List.length_take]; omega
  by_cases h1 : j < i
  · rw [List.getElem?_append_left (by omega), List.getElem?_take, if_pos h1] at hj
    rw [List.getElem?_append_left (by omega), List.getElem?_take, if_pos h1]
    exact hr j a hj
  · rw [List.getElem?_append_right (by omega), l1] at hj
    rw [List.getElem?_append_right (by omega), l2]
    rcases Nat.eq_zero_or_pos (j - i) with h0 | h0
    · rw [h0] at hj ⊢
      simp at hj
      subst hj
      exact ⟨y, rfl, hx⟩
    · obtain ⟨q, hq⟩ : ∃ q, j - i = q + 1 := ⟨j - i - 1, by omega⟩
      rw [hq, List.getElem?_cons_succ, List.getElem?_drop] at hj
      rw [hq, List.getElem?_cons_succ, List.getElem?_drop]
      exact hr _ a hj

/-- What slices.Insert tells. -/
def InsP (d : Nat) (B : Nat) (w : World) (ok : Nat → Prop) (v : Value) (xs : List Fld) (i : Nat) (f : Fld) (en : Ending) (w' : World) : Prop :=
  ∃ v', en = .returned v' ∧ Own (KFld (KV d)) 37 B w' ok v' (xs.take i ++ f :: xs.drop i) ∧ Only (fun k => v.ownBlock = some k) w w'

theorem sl_from (A : Option Addr) (L cap l : Nat) (z : Int) (hz : z = (l : Int)) (h : l ≤ L) (_hc : L ≤ cap) (_hm : cap ≤ 9223372036854775807) (W : World) : (Instr.slice 26 (.slice A L cap) (some (.int .i64 z)) none none).run Tryz.prog W = .ok (.slice (if cap = l then A else A.map (·.add (l * 6))) (L - l) (cap - l)) W := by
  subst hz
  have e1 : (l : Int) ≤ (L : Int) := by omega
  simp [Instr.slice, Instr.sliceBounds, go_sem, e1]
theorem sl_to (A : Option Addr) (L cap l : Nat) (z : Int) (hz : z = (l : Int)) (h : l ≤ cap) (_hm : cap ≤ 9223372036854775807) (_h0 : cap = 0 → l = 0) (W : World) : (Instr.slice 26 (.slice A L cap) none (some (.int .i64 z)) none).run Tryz.prog W = .ok (.slice A l cap) W := by
  subst hz
  have e1 : (l : Int) ≤ (cap : Int) := by omega
  cases A with
  | none => simp [Instr.slice, Instr.sliceBounds, go_sem, e1]
  | some a => simp [Instr.slice, Instr.sliceBounds, go_sem, e1]
theorem sl_at (g L cap l : Nat) (z : Int) (hz : z = (l : Int)) (h : l ≤ L) (hc : L ≤ cap) (hl : l < cap) (hm : cap ≤ 9223372036854775807) (W : World) : (Instr.slice 26 (.slice (some ⟨g, 0, none⟩) L cap) (some (.int .i64 z)) none none).run Tryz.prog W = .ok (.slice (some ⟨g, l * 6, none⟩) (L - l) (cap - l)) W := by
  rw [sl_from _ L cap l z hz h hc hm W, if_neg (by omega), Option.map_some, Addr.add_lit, Nat.zero_add]

section
variable {α : Type} {K : Knd α} {e : TypeId} {B : Nat} {w : World} {ok : Nat → Prop} {xs : List α}
theorem Own.opened {v : Value} (hO : Own K e B w ok v xs) (hne : 0 < xs.length) : ∃ (g cap : Nat) (cur : Array Value) (css : List (List Value)), v = .slice (some ⟨g, 0, none⟩) xs.length cap ∧ B ≤ g ∧ ok g ∧ w.heap[g]? = some (.cells cur e (0, 0)) ∧ xs.length ≤ cap ∧ cap ≤ maxLen ∧ cur.size = cap * K.sz ∧
    cur.toList.take (xs.length * K.sz) = css.flatten ∧ css.length = xs.length ∧ (∀ cs ∈ css, cs.length = K.sz ∧ ∀ u ∈ cs, u.oneCell' = true) ∧ ∀ (i : Nat) (x : α), xs[i]? = some x → ∃ cs, css[i]? = some cs ∧ K.R w (fun k => ok k ∧ k ≠ g) x cs := by
  obtain ⟨h0, css, h1, ⟨_, ho⟩, h2⟩ := hO
  rcases ho with ⟨_, hn⟩ | ⟨g, cap, cur, rfl, hB, hg, h3, h4, h5, h6⟩
  · omega
  refine ⟨g, cap, cur, css, rfl, hB, h0 g rfl, hg, h3, h4, h5, h6, h1, fun cs hcs => ?_, fun i x hx => ?_⟩
  · obtain ⟨i', hi', he⟩ := List.getElem_of_mem hcs
    have hx' : xs[i']? = some (xs[i']'(by omega)) := List.getElem?_eq_getElem (by omega)
    obtain ⟨cs', a', b'⟩ := h2 i' _ hx'
    have : css[i']? = some cs := by rw [List.getElem?_eq_getElem hi', he]
    rw [this] at a'
    injection a' with a'
    subst a'
    exact ⟨K.len b', K.one b'⟩
  · obtain ⟨cs, a, b⟩ := h2 i x hx
    exact ⟨cs, a, K.mono (fun k hk => ⟨hk.1, fun e => hk.2 (by rw [e]; rfl)⟩) b⟩
theorem Own.closed {g cap : Nat} {cur : Array Value} {css : List (List Value)} (hB : B ≤ g) (hok : ok g) (hg : w.heap[g]? = some (.cells cur e (0, 0))) (hl : xs.length ≤ cap) (hm : cap ≤ maxLen) (hs : cur.size = cap * K.sz) (ht : cur.toList.take (xs.length * K.sz) = css.flatten) (hcl : css.length = xs.length)
    (hr : ∀ (i : Nat) (x : α), xs[i]? = some x → ∃ cs, css[i]? = some cs ∧ K.R w (fun k => ok k ∧ k ≠ g) x cs) : Own K e B w ok (.slice (some ⟨g, 0, none⟩) xs.length cap) xs := by
  refine ⟨fun g' hg' => by injection hg' with hg'; subst hg'; exact hok, css, hcl, ⟨?_, .inr ⟨g, cap, cur, rfl, hB, hg, hl, hm, hs, ht⟩⟩, fun i x hx => ?_⟩
  · have hlen : cur.toList.length = cap * K.sz := by rw [Array.length_toList]; exact hs
    rw [← ht, List.length_take, hlen]
    exact Nat.min_eq_left (Nat.mul_le_mul_right _ hl)
  · obtain ⟨cs, a, b⟩ := hr i x hx
    exact ⟨cs, a, K.mono (fun k hk => ⟨hk.1, fun e => by injection e with e; exact hk.2 e⟩) b⟩
end
theorem overlaps_no (gx g o L c : Nat) (w : World) (cx cg : Array Value) (tx tg : TypeId) (hgx : w.heap[gx]? = some (.cells cx tx (0, 0))) (hg : w.heap[g]? = some (.cells cg tg (0, 0))) (hne : gx ≠ g) (hz : cg.size ≠ 0) :
    (callFunc 138 #[.slice (some ⟨gx, 0, none⟩) 1 1, .slice (some ⟨g, o, none⟩) L c]).run Tryz.prog w = .ok (.value (.bool false)) w := by
  rw [@run_callFunc_extern Tryz.prog 138 _ (Extern.SlicesOverlaps.overlaps #[26, 26] #[4]) Tryz.func138 (by kernel_rfl) (by kernel_rfl) (by kernel_rfl) (by kernel_rfl),
    Lib.run_overlaps_apart w 26 4 37 Tryz.underlying26 6 Tryz.sizeOf37 ⟨gx, 0, none⟩ ⟨g, o, none⟩ 1 1 L c hne tx tg cx.size cg.size (by simp [World.shape?, hgx]) (by simp [World.shape?, hg]) hz (by simp [World.frozen?, hgx]) (by simp [World.frozen?, hgx])]
  rfl

section
variable (d B : Nat) (w : World) (ok okx : Nat → Prop) (v : Value) (xs : List Fld) (f : Fld) (gx : Nat) (cs : List Value)
set_option maxRecDepth 100000 in
set_option maxHeartbeats 2000000 in
theorem insert_end (hO : Own (KFld (KV d)) 37 B w ok v xs) (hgx : w.heap[gx]? = some (.cells cs.toArray 37 (0, 0))) (hx : (KFld (KV d)).R w okx f cs) (hokx : ∀ k, okx k → ok k ∧ some k ≠ v.ownBlock)
    (hnew : ∀ k, w.heap.size ≤ k → ok k) (hn : xs.length ≤ 1000000) (hB : B ≤ w.heap.size) :
    Calls Tryz.prog 127 #[v, .int .i64 (xs.length : Int), .slice (some ⟨gx, 0, none⟩) 1 1] w (InsP d B w ok v xs xs.length f) := by
  obtain ⟨A, c, hv, hc1, hc2⟩ := hO.slice
  obtain ⟨i0, hi, hzz⟩ := Option.map_eq_some_iff.1 Tryz.infoFc
  simp only [Prod.mk.injEq] at hzz
  have HI := Ap.of (And.intro hi hzz)
  have HO := Ap.of hO
  have HX := Ap.of hx
  have HGX := Ap.of hgx
  have HK := Ap.of hokx
  have HN := Ap.of hnew
  have HB := Ap.of hB
  clear hi hzz hO hgx hx hokx hnew hB
  subst hv
  have hsl := sl_from A xs.length c xs.length _ rfl (Nat.le_refl _) hc1 hc2
  generalize (if c = xs.length then A else A.map (·.add (xs.length * 6))) = A' at hsl
  rw [Nat.sub_self] at hsl
  generalize c - xs.length = c' at hsl
  go_enter Tryz.func127, Tryz.ntmps127
  go_wp2_with (at_builtin; refine wp_append (K := KFld (KV d)) (tx := 37) (gx := gx) (e := 37) (B := B) (ok := ok) (okx := okx) (xs := xs) (x := f) (cs := cs) rfl _ _ 26 i0 _ 96 rfl Tryz.underlying26 HI.out.1 HI.out.2.1 ?b1 HI.out.2.2.2 ?b2 ?b3 rfl rfl HO.out HGX.out HX.out HK.out HN.out ?a6 ?a7 HB.out ?_)
  case b1 => rw [HI.out.2.2.1, KFld_sz]
  case b2 => rw [KFld_sz]; rfl
  case b3 => rw [KFld_sz]; omega
  case a6 => omega
  case a7 => omega
  intro v5 w5 hO5 honly
  have HO5 := Ap.of hO5
  have HON := Ap.of honly
  clear hO5 honly
  go_wp2_with fail
  go_ret
  refine ⟨_, rfl, ?_, HON.out⟩
  rw [List.take_length, List.drop_length]
  exact HO5.out

set_option maxRecDepth 100000 in
set_option maxHeartbeats 4000000 in
theorem insert_shift (i n g cap : Nat) (cur : Array Value) (X1 X2 : List Value) (hi : i < n) (hgx : w.heap[gx]? = some (.cells cs.toArray 37 (0, 0))) (hg : w.heap[g]? = some (.cells cur 37 (0, 0))) (hne : gx ≠ g) (hroom : n + 1 ≤ cap) (hcap : cap ≤ 9223372036854775807)
    (hcs : cur.size = cap * 6) (h1 : cur.toList.take (i * 6) = X1) (h2 : (cur.toList.drop (i * 6)).take ((n - i) * 6) = X2) (hc6 : cs.length = 6) (hc1 : ∀ u ∈ cs, u.oneCell' = true) (hx1 : ∀ u ∈ X2, u.oneCell' = true) :
    Calls Tryz.prog 127 #[.slice (some ⟨g, 0, none⟩) n cap, .int .i64 (i : Int), .slice (some ⟨gx, 0, none⟩) 1 1] w fun e w' =>
      e = .returned (.slice (some ⟨g, 0, none⟩) (n + 1) cap) ∧ (∃ R, w'.heap[g]? = some (.cells (X1 ++ (cs ++ (X2 ++ R))).toArray 37 (0, 0)) ∧ (X1 ++ (cs ++ (X2 ++ R))).length = cap * 6) ∧ Only (fun k => k = g) w w' := by
  obtain ⟨i0, hif, hzz⟩ := Option.map_eq_some_iff.1 Tryz.infoFc
  simp only [Prod.mk.injEq] at hzz
  have HI := Ap.of (And.intro hif hzz)
  have t0 : ((i : Int) == (n : Int)) = false := by simp; omega
  have t1 : decide ((cap : Int) < (n : Int) + 1) = false := by simp; omega
  have sl0 := sl_at g n cap i _ rfl (by omega) (by omega) (by omega) hcap
  have sl1 := sl_to (some ⟨g, 0, none⟩) n cap (n + 1) ((n : Int) + 1) (by omega) hroom hcap (by omega)
  have sl2 := sl_at g (n + 1) cap (i + 1) ((i : Int) + 1) (by omega) (by omega) hroom (by omega) hcap
  rw [Nat.add_sub_add_right] at sl2
  have sl3 := sl_at g (n + 1) cap i _ rfl (by omega) hroom (by omega) hcap
  have hov := overlaps_no gx g ((i + 1) * 6) (n - i) (cap - (i + 1)) w _ _ _ _ hgx hg hne (by omega)
  have HG := Ap.of hg
  have HGX := Ap.of hgx
  have hX2 : X2.length = (n - i) * 6 := by
    rw [← h2, List.length_take, List.length_drop, Array.length_toList, hcs]
    omega
  have hsrc : ∀ (j : Nat) (u : Value), X2[j]? = some u → w.drew.cell? ((⟨g, i * 6, none⟩ : Addr).add j) = some u := by
    intro j u hj
    rw [Addr.add_lit, blk_cells (blk_draw hg)]
    rw [← h2, List.getElem?_take] at hj
    split at hj
    · rw [List.getElem?_drop] at hj
      rw [← Array.getElem?_toList]
      exact hj
    · cases hj
  have hmin : Nat.min (n + 1 - i) (n - i) = n - i := Nat.min_eq_right (by omega)
  have hmin2 : Nat.min 1 (n + 1 - i) = 1 := Nat.min_eq_left (by omega)
  have hXs : X2.length = (n - i) * i0.size := by rw [hzz.2.1]; exact hX2
  have hCs : cs.length = 1 * i0.size := by rw [hzz.2.1, Nat.one_mul]; exact hc6
  have hfit : (i + 1) * 6 + X2.length ≤ cur.size := by rw [hcs, hX2]; omega
  have hspl : (splice cur.toList ((i + 1) * 6) X2).toArray.size = cap * 6 := by
    rw [List.size_toArray, length_splice _ _ _ (by rw [Array.length_toList]; exact hfit), Array.length_toList]; exact hcs
  have hfit2 : i * 6 + cs.length ≤ (splice cur.toList ((i + 1) * 6) X2).toArray.size := by rw [hspl, hc6]; omega
  have hres := splice_shift cur.toList X1 X2 cs (i * 6) ((i + 1) * 6) h1 (by rw [Array.length_toList, hcs]; omega) (by rw [hc6]; omega) (by rw [Array.length_toList]; exact hfit)
  have hlen : (splice (splice cur.toList ((i + 1) * 6) X2) (i * 6) cs).length = cap * 6 := by
    rw [length_splice _ _ _ (by have := hfit2; rw [List.size_toArray] at this; exact this), ← hspl, List.size_toArray]
  have HM := Ap.of (And.intro hmin (And.intro hmin2 (And.intro hXs (And.intro hCs (And.intro hfit hfit2)))))
  have HRS := Ap.of (And.intro hres hlen)
  have HF := Ap.of (And.intro hsrc (And.intro hc1 hx1))
  clear hif hzz hg hgx hX2 hsrc hcs hc6 hc1 hx1 h1 h2 hmin hmin2 hXs hCs hfit hfit2 hspl hres hlen
  have hi0 : (0 : Int) ≤ (i : Int) + 1 := by omega
  have hw1 : IntKind.i64.wrap ((i : Int) + 1) = (i : Int) + 1 := by rw [IntKind.wrap_i64]; omega
  have hin : i ≤ n := by omega
  have hii : (i : Int) ≤ (n : Int) := by omega
  have htn : ((i : Int) + 1).toNat = i + 1 := by omega
  have hb2 : ¬ (cap = i + 1) := by omega
  have hb3 : (i : Int) ≤ (n : Int) + 1 := by omega
  have hb4 : ¬ (cap = i) := by omega
  have hn0 : (0 : Int) ≤ (n : Int) + 1 := by omega
  go_enter Tryz.func127, Tryz.ntmps127
  go_wp2_with (simp only [hov])
  go_region_law (refine step_copyK rfl (.tmp 73) (.tmp 76) 26 26 37 i0 g ((i + 1) * 6) (n - i) (cap - (i + 1)) ⟨g, i * 6, none⟩ (n + 1 - i) (cap - i) cur 37 X2 (n - i) rfl Tryz.underlying26 HI.out.1 (by simp [Act.eval, Act.put]) (by simp [Act.eval, Act.put]) (blk_draw HG.out) HM.out.1 HM.out.2.2.1 HF.out.1 HM.out.2.2.2.2.1 HF.out.2.2 ?_; intro w5 hg5 hon5)
  clear hw1 htn
  have HG5 := Ap.of hg5
  have HX5 := Ap.of (blk_only (blk_draw HGX.out) hon5 hne)
  have HN5 := Ap.of (show Only (fun k => k = g) w w5 from (Only.of_below (bel_draw w) _).trans hon5 (fun i hi => .inl hi))
  clear hg5 hon5
  have hsx : Ap (∀ (j : Nat) (u : Value), cs[j]? = some u → w5.cell? ((⟨gx, 0, none⟩ : Addr).add j) = some u) := Ap.of (fun j u hj => by
    rw [Addr.add_lit, Nat.zero_add, blk_cells HX5.out]
    simpa using hj)
  go_wp2_with (refine wp_copyK rfl (.tmp 80) (.tmp 81) 26 26 37 i0 g (i * 6) (n + 1 - i) (cap - i) ⟨gx, 0, none⟩ 1 1 (splice cur.toList ((i + 1) * 6) X2).toArray 37 cs 1 rfl Tryz.underlying26 HI.out.1 (by simp [Act.eval]) (by simp [Act.eval]) HG5.out HM.out.2.1 HM.out.2.2.2.1 hsx.out HM.out.2.2.2.2.2 HF.out.2.1 ?_)
  intro w6 hg6 hon6
  have HG6 := Ap.of hg6
  have HN6 := Ap.of hon6
  clear hg6 hon6
  go_wp2_with fail
  go_ret
  refine ⟨rfl, ⟨cur.toList.drop ((i + 1) * 6 + X2.length), ?_, ?_⟩, HN5.out.trans HN6.out (fun i hi => .inl hi)⟩
  · rw [← HRS.out.1]; exact HG6.out
  · rw [← HRS.out.1]; exact HRS.out.2

set_option maxRecDepth 100000 in
set_option maxHeartbeats 4000000 in
theorem insert_grow (i n g cap : Nat) (cur : Array Value) (X1 X2 : List Value) (hi : i < n) (hn : n ≤ 1000000) (hgx : w.heap[gx]? = some (.cells cs.toArray 37 (0, 0))) (hg : w.heap[g]? = some (.cells cur 37 (0, 0))) (hroom : cap < n + 1) (hnc : n ≤ cap) (hcap : cap ≤ 9223372036854775807)
    (hcs : cur.size = cap * 6) (h1 : cur.toList.take (i * 6) = X1) (h2 : (cur.toList.drop (i * 6)).take ((n - i) * 6) = X2) (hc6 : cs.length = 6) (hc1 : ∀ u ∈ cs, u.oneCell' = true) (hx1 : ∀ u ∈ X2, u.oneCell' = true) :
    Calls Tryz.prog 127 #[.slice (some ⟨g, 0, none⟩) n cap, .int .i64 (i : Int), .slice (some ⟨gx, 0, none⟩) 1 1] w fun e w' =>
      ∃ G, e = .returned (.slice (some ⟨w.heap.size, 0, none⟩) (n + 1) G) ∧ n + 1 ≤ G ∧ G ≤ maxLen ∧ (∃ R, w'.heap[w.heap.size]? = some (.cells (X1 ++ (cs ++ (X2 ++ R))).toArray 37 (0, 0)) ∧ (X1 ++ (cs ++ (X2 ++ R))).length = G * 6) ∧ Below w.heap.size w w' := by
  obtain ⟨i0, hif, hzz⟩ := Option.map_eq_some_iff.1 Tryz.infoFc
  simp only [Prod.mk.injEq] at hzz
  have HI := Ap.of (And.intro hif hzz)
  have t0 : ((i : Int) == (n : Int)) = false := by simp; omega
  have t1 : decide ((cap : Int) < (n : Int) + 1) = true := by simp; omega
  have sl0 := sl_at g n cap i _ rfl (by omega) (by omega) (by omega) hcap
  have sl1 := sl_to (some ⟨g, 0, none⟩) n cap i _ rfl (by omega) hcap (by omega)
  have hX1 : X1.length = i * 6 := by rw [← h1, List.length_take, Array.length_toList, hcs]; omega
  have hX2 : X2.length = (n - i) * 6 := by
    rw [← h2, List.length_take, List.length_drop, Array.length_toList, hcs]
    omega
  have hold : ∀ (j : Nat) (u : Value), X1[j]? = some u → w.cell? ((⟨g, 0, none⟩ : Addr).add j) = some u := by
    intro j u hj
    rw [Addr.add_lit, Nat.zero_add, blk_cells hg]
    rw [← h1, List.getElem?_take] at hj
    split at hj
    · rw [← Array.getElem?_toList]; exact hj
    · cases hj
  have hsrc : ∀ (W : World), W.heap[g]? = w.heap[g]? → ∀ (j : Nat) (u : Value), X2[j]? = some u → W.cell? ((⟨g, i * 6, none⟩ : Addr).add j) = some u := by
    intro W hW j u hj
    rw [Addr.add_lit, blk_cells (hW.trans hg)]
    rw [← h2, List.getElem?_take] at hj
    split at hj
    · rw [List.getElem?_drop] at hj
      rw [← Array.getElem?_toList]
      exact hj
    · cases hj
  have hk : (n : Int) + 1 - (i : Int) = ((n + 1 - i : Nat) : Int) := by omega
  have hik : i + (n + 1 - i) = n + 1 := by omega
  have hmin : Nat.min 1 (n + 1 - i) = 1 := Nat.min_eq_left (by omega)
  have hmin2 : Nat.min (n - i) (n - i) = n - i := Nat.min_eq_left (by omega)
  have HM := Ap.of (And.intro hmin (And.intro hmin2 (show cs.length = 1 * i0.size by rw [hzz.2.1, Nat.one_mul]; exact hc6)))
  have HM2 := Ap.of (And.intro (show X2.length = (n - i) * i0.size by rw [hzz.2.1]; exact hX2) (And.intro (show X1.length = i * i0.size by rw [hzz.2.1]; exact hX1) (show (Value.agg #[.string ⟨#[]⟩, .int .i64 0, .int .i64 0, .string ⟨#[]⟩, .slice none 0 0, .slice none 0 0]).cells.size = i0.size by rw [hzz.2.1]; rfl)))
  have HP := Ap.of (And.intro (show 0 < n + 1 - i by omega) (And.intro (show 0 < i0.size by rw [hzz.2.1]; omega) (And.intro (show cap < i + (n + 1 - i) by omega) (And.intro (show (i + (n + 1 - i)) * i0.bytes ≤ 140737488355328 by rw [hzz.2.2, hik]; omega) (show i + (n + 1 - i) ≤ 9223372036854775807 by omega)))))
  have HF := Ap.of (And.intro hold (And.intro hsrc (And.intro hc1 hx1)))
  have HL := Ap.of (And.intro hX1 (And.intro hX2 hc6))
  have HIK := Ap.of hik
  have HK := Ap.of hk
  have HG := Ap.of hg
  have HGX := Ap.of hgx
  have hlg := blk_lt hg
  have hlx := blk_lt hgx
  clear hif hzz hg hgx hX1 hX2 hsrc hold hcs hc6 hc1 hx1 h1 h2 hmin hmin2 hik hk
  go_enter Tryz.func127, Tryz.ntmps127
  go_wp2_with (at_builtin; refine wp_append_zeros (kq := .i64) rfl (.tmp 34) (.tmp 39) 26 3 37 i0 _ .i64 ⟨g, 0, none⟩ i cap X1 (n + 1 - i) rfl Tryz.underlying26 Tryz.underlying3 HI.out.1 HI.out.2.1 HM2.out.2.2 (by simp [Act.eval]) (by rw [← HK.out]; simp [Act.eval]) HM2.out.2.1 HF.out.1 HP.out.1 HP.out.2.1 HP.out.2.2.1 HP.out.2.2.2.1 HP.out.2.2.2.2 ?_)
  intro w1 G Z hG hGm hZ hz hon hws
  rw [HIK.out] at hG ⊢
  unfold maxLen at hGm
  have sl2 := sl_at w.heap.size (n + 1) G i _ rfl (by omega) hG (by omega) hGm
  have sl3 := sl_at w.heap.size (n + 1) G (i + 1) ((i : Int) + 1) (by omega) (by omega) hG (by omega) hGm
  rw [Nat.add_sub_add_right] at sl3
  have hZ' : Z.length = (G - i) * 6 := by rw [hZ, HI.out.2.2.1]
  have hl1 : (X1 ++ Z).toArray.size = G * 6 := by rw [List.size_toArray, List.length_append, HL.out.1, hZ']; omega
  have hf1 : i * 6 + cs.length ≤ (X1 ++ Z).toArray.size := by rw [hl1, HL.out.2.2]; omega
  have hl2 : (splice (X1 ++ Z) (i * 6) cs).toArray.size = G * 6 := by
    rw [List.size_toArray, length_splice _ _ _ (by rw [← List.size_toArray]; exact hf1), ← List.size_toArray]; exact hl1
  have hf2 : (i + 1) * 6 + X2.length ≤ (splice (X1 ++ Z) (i * 6) cs).toArray.size := by rw [hl2, HL.out.2.1]; omega
  have hl3 : (splice (splice (X1 ++ Z) (i * 6) cs) ((i + 1) * 6) X2).length = G * 6 := by
    rw [length_splice _ _ _ (by rw [← List.size_toArray]; exact hf2), ← List.size_toArray]; exact hl2
  obtain ⟨R, hR⟩ := splice_grow X1 Z X2 cs (i * 6) ((i + 1) * 6) HL.out.1.symm (by rw [HL.out.2.2]; omega)
  have HRR := Ap.of (And.intro hR hl3)
  have HFT := Ap.of (And.intro hf1 hf2)
  have HGG := Ap.of (And.intro hG hGm)
  have HZ := Ap.of hz
  have HX1 := Ap.of (blk_only HGX.out hon (fun h => h))
  have HG1 := Ap.of (blk_only HG.out hon (fun h => h))
  have HB1 := Ap.of (hon.below (Nat.le_refl _) (fun i h => h.elim))
  have hneg : g ≠ w.heap.size := by omega
  have hnex : gx ≠ w.heap.size := by omega
  have hsx : Ap (∀ (j : Nat) (u : Value), cs[j]? = some u → w1.cell? ((⟨gx, 0, none⟩ : Addr).add j) = some u) := Ap.of (fun j u hj => by
    rw [Addr.add_lit, Nat.zero_add, blk_cells HX1.out]
    simpa using hj)
  have hw1 : IntKind.i64.wrap ((i : Int) + 1) = (i : Int) + 1 := by rw [IntKind.wrap_i64]; omega
  have hi0 : (0 : Int) ≤ (i : Int) + 1 := by omega
  have hin : i ≤ n := by omega
  have hii : (i : Int) ≤ (n : Int) := by omega
  have htn : ((i : Int) + 1).toNat = i + 1 := by omega
  have hb2 : ¬ (G = i + 1) := by omega
  have hb4 : ¬ (cap = i) := by omega
  have HW := Ap.of (And.intro hw1 htn)
  clear hZ hZ' hl1 hf1 hl2 hf2 hl3 hR hz hon hG hGm hw1 htn
  go_wp2_with (refine wp_copyK rfl (.tmp 43) (.tmp 44) 26 26 37 i0 w.heap.size (i * 6) (n + 1 - i) (G - i) ⟨gx, 0, none⟩ 1 1 (X1 ++ Z).toArray 37 cs 1 rfl Tryz.underlying26 HI.out.1 (by simp [Act.eval]) (by simp [Act.eval]) HZ.out HM.out.1 HM.out.2.2 hsx.out HFT.out.1 HF.out.2.2.1 ?_)
  intro w2 hg2 hon2
  have HG2 := Ap.of hg2
  have HN2 := Ap.of hon2
  have HGC := Ap.of (blk_only HG1.out hon2 hneg)
  clear hg2 hon2
  go_wp2_with fail
  have hw1 := HW.out.1
  have htn := HW.out.2
  go_region_law (refine step_copyK rfl (.tmp 50) (.tmp 53) 26 26 37 i0 w.heap.size ((i + 1) * 6) (n - i) (G - (i + 1)) ⟨g, i * 6, none⟩ (n - i) (cap - i) (splice (X1 ++ Z) (i * 6) cs).toArray 37 X2 (n - i) rfl Tryz.underlying26 HI.out.1 (by simp [Act.eval, Act.put]) (by simp [Act.eval, Act.put]) (blk_draw HG2.out) HM.out.2.1 HM2.out.1 (HF.out.2.1 _ (((blk_draw HGC.out) : w2.drew.heap[g]? = _).trans HG.out.symm)) HFT.out.2 HF.out.2.2.2 ?_; intro w3 hg3 hon3)
  clear hw1 htn
  have HG3 := Ap.of hg3
  have HN3 := Ap.of hon3
  clear hg3 hon3
  go_wp2_with fail
  go_ret
  refine ⟨G, rfl, HGG.out.1, by unfold maxLen; exact HGG.out.2, ⟨R, ?_, ?_⟩, ?_⟩
  · rw [← HRR.out.1]; exact HG3.out
  · have := HRR.out.2
    rw [HRR.out.1] at this
    simpa using this
  · have b2 := bel_only HB1.out HB1.out.size HN2.out (fun i he => by omega)
    exact bel_only b2.drew b2.size HN3.out (fun i he => by omega)

theorem insert_calls (i : Nat) (hi : i ≤ xs.length) (hO : Own (KFld (KV d)) 37 B w ok v xs) (hgx : w.heap[gx]? = some (.cells cs.toArray 37 (0, 0))) (hx : (KFld (KV d)).R w okx f cs) (hokx : ∀ k, okx k → ok k ∧ some k ≠ v.ownBlock)
    (hnex : some gx ≠ v.ownBlock) (hnew : ∀ k, w.heap.size ≤ k → ok k) (hn : xs.length ≤ 1000000) (hB : B ≤ w.heap.size) :
    Calls Tryz.prog 127 #[v, .int .i64 (i : Int), .slice (some ⟨gx, 0, none⟩) 1 1] w (InsP d B w ok v xs i f) := by
  by_cases hie : i = xs.length
  · subst hie
    exact insert_end d B w ok okx v xs f gx cs hO hgx hx hokx hnew hn hB
  have hil : i < xs.length := by omega
  obtain ⟨g, cap, cur, css, rfl, hBg, hokg, hg, hlc, hcm, hcs, ht, hcl, hc, hr⟩ := hO.opened (by omega)
  have hcm' := hcm
  unfold maxLen at hcm'
  have hsz := KFld_sz d
  rw [hsz] at hcs ht
  have hc6 : cs.length = 6 := by rw [(KFld (KV d)).len hx, hsz]
  have hcl6 : ∀ cs ∈ css, cs.length = 6 := fun cs h => by rw [(hc cs h).1, hsz]
  have hcur : cur.toList.length = cap * 6 := by rw [Array.length_toList]; exact hcs
  obtain ⟨f1, f2⟩ := flat_take css 6 hcl6 i (by omega)
  have h1 : cur.toList.take (i * 6) = (css.take i).flatten := by
    rw [← f1, ← ht, List.take_take, Nat.min_eq_left (by omega)]
  have h2 : (cur.toList.drop (i * 6)).take ((xs.length - i) * 6) = (css.drop i).flatten := by
    rw [← f2, ← ht, List.drop_take, Nat.sub_mul]
  have hx1 : ∀ u ∈ (css.drop i).flatten, u.oneCell' = true := fun u hu => by
    obtain ⟨l, hl, hu⟩ := List.mem_flatten.1 hu
    exact (hc l (List.mem_of_mem_drop hl)).2 u hu
  have hne : gx ≠ g := fun e => hnex (by rw [e]; rfl)
  have hfl : (css.take i ++ cs :: css.drop i).flatten = (css.take i).flatten ++ (cs ++ (css.drop i).flatten) := ins_flat css cs i
  have hlen : (xs.take i ++ f :: xs.drop i).length = xs.length + 1 := by
    rw [List.length_append, List.length_cons, List.length_take, List.length_drop]; omega
  have hlen2 : (css.take i ++ cs :: css.drop i).length = xs.length + 1 := by
    rw [List.length_append, List.length_cons, List.length_take, List.length_drop]; omega
  have htk : ∀ R : List Value, ((css.take i).flatten ++ (cs ++ ((css.drop i).flatten ++ R))).take ((xs.length + 1) * 6) = (css.take i ++ cs :: css.drop i).flatten := fun R => by
    rw [hfl, ← List.append_assoc, ← List.append_assoc, ← List.append_assoc]
    refine List.take_left' ?_
    rw [List.append_assoc, ← hfl]
    rw [flat_len _ 6 (fun l hl => by
      rcases List.mem_append.1 hl with h | h
      · exact hcl6 l (List.mem_of_mem_take h)
      · rcases List.mem_cons.1 h with h | h
        · rw [h]; exact hc6
        · exact hcl6 l (List.mem_of_mem_drop h)), hlen2]
  by_cases hroom : xs.length + 1 ≤ cap
  · refine (insert_shift w gx cs i xs.length g cap cur _ _ hil hgx hg hne hroom hcm' hcs h1 h2 hc6 ((KFld (KV d)).one hx) hx1).mono ?_
    rintro e w' ⟨rfl, ⟨R, hg', hl'⟩, hon⟩
    have hon' : Only (fun k => (Value.slice (some ⟨g, 0, none⟩) xs.length cap).ownBlock = some k) w w' := hon.mono (fun k hk => by rw [hk]; rfl)
    refine ⟨_, rfl, ?_, hon'⟩
    rw [← hlen]
    refine Own.closed (css := css.take i ++ cs :: css.drop i) hBg hokg hg' (by rw [hlen]; exact hroom) hcm (by rw [hsz, List.size_toArray]; exact hl') (by rw [hsz, hlen]; exact htk R) (by rw [hlen, hlen2]) ?_
    refine ins_get hcl hi (R := fun x y => (KFld (KV d)).R w' (fun k => ok k ∧ k ≠ g) x y) (fun j a hj => ?_) ?_
    · obtain ⟨b, e1, e2⟩ := hr j a hj
      exact ⟨b, e1, Knd.only e2 hon (fun k hk => hk.2)⟩
    · exact (KFld (KV d)).mono (fun k hk => ⟨(hokx k hk).1, fun e => (hokx k hk).2 (by rw [e]; rfl)⟩) (Knd.only hx hon (fun k hk e => (hokx k hk).2 (by rw [e]; rfl)))
  · refine (insert_grow w gx cs i xs.length g cap cur _ _ hil hn hgx hg (by omega) hlc hcm' hcs h1 h2 hc6 ((KFld (KV d)).one hx) hx1).mono ?_
    rintro e w' ⟨G, rfl, hG, hGm, ⟨R, hg', hl'⟩, hb⟩
    refine ⟨_, rfl, ?_, Only.of_below hb _⟩
    rw [← hlen]
    refine Own.closed (css := css.take i ++ cs :: css.drop i) hB (hnew _ (Nat.le_refl _)) hg' (by rw [hlen]; exact hG) hGm (by rw [hsz, List.size_toArray]; exact hl') (by rw [hsz, hlen]; exact htk R) (by rw [hlen, hlen2]) ?_
    refine ins_get hcl hi (R := fun x y => (KFld (KV d)).R w' (fun k => ok k ∧ k ≠ w.heap.size) x y) (fun j a hj => ?_) ?_
    · obtain ⟨b, e1, e2⟩ := hr j a hj
      exact ⟨b, e1, (KFld (KV d)).mono (fun k hk => ⟨hk.1.1, by have := hk.2; omega⟩) ((KFld (KV d)).move (fun k hk => hb.block k hk.2) ((KFld (KV d)).bound e2))⟩
    · exact (KFld (KV d)).mono (fun k hk => ⟨(hokx k hk.1).1, by have := hk.2; omega⟩) ((KFld (KV d)).move (fun k hk => hb.block k hk.2) ((KFld (KV d)).bound hx))
end
end Go.Proofs.YtlomieopppndeaaGreatDoor
