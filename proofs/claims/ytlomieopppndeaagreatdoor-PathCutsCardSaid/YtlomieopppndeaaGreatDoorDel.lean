/- slices.Delete of one field; value.Del: a value without a field. -/
import Derived.Test.YtlomieopppndeaaGreatDoorSetWalk
import Derived.ArgAppend
namespace Go.Proofs.YtlomieopppndeaaGreatDoor
open Go.RowKit

theorem only_setCells (g : Nat) : ∀ (vs : List Value) (o : Nat) (w : World), Only (fun k => k = g) w (w.setCells g o vs)
  | [], _, w => Only.refl _ w
  | v :: vs, o, w => (Only.setCell w ⟨g, o, none⟩ v).trans (only_setCells g vs (o + 1) _) (fun _ h => .inl h)
theorem blk_setCells {g : Nat} {t : TypeId} : ∀ (vs : List Value) (o : Nat) (w : World) (cur : Array Value), w.heap[g]? = some (.cells cur t (0, 0)) → o + vs.length ≤ cur.size → (w.setCells g o vs).heap[g]? = some (.cells (splice cur.toList o vs).toArray t (0, 0))
  | [], o, w, cur, h, _ => by
    show w.heap[g]? = _
    rw [splice_none, Array.toArray_toList]; exact h
  | v :: vs, o, w, cur, h, hf => by
    have hf' : o + (vs.length + 1) ≤ cur.size := by simpa using hf
    have := blk_setCells vs (o + 1) (w.setCell ⟨g, o, none⟩ v) (cur.setIfInBounds o v) (blk_set h o v) (by simp; omega)
    show ((w.setCell ⟨g, o, none⟩ v).setCells g (o + 1) vs).heap[g]? = _
    rw [this, Array.toList_setIfInBounds, splice_step _ _ _ _ (by rw [Array.length_toList]; exact hf')]

section
variable {P : Program} {w : World} {ops : Array Oper} {rest : List Oper} {o : Oper} {a : Act} {Q : Exit → Act → World → Prop} {K : Act → World → Prop} {E : Prop}
/-- append(s[:n], x...) with room, s in a row that is known whole. -/
theorem step_append_roomK (hgd : o.guard = none) (s x : Operand) (t e : TypeId) (i : TypeInfo) (size g n cap r : Nat) (cur : Array Value) (tt : TypeId) (ad : Addr) (m c : Nat) (news : List Value)
    (ho : o.op = .call { callee := .builtin .append, args := #[s, x], argTypes := #[t, t] }) (ht : P.underlying t = some (.slice e)) (hi : P.info? e = some i) (hsz : i.size = size)
    (hs : a.eval s = .slice (some ⟨g, 0, none⟩) n cap) (hx : a.eval x = .slice (some ad) m c) (hl : news.length = m * size) (hsrc : ∀ j u, news[j]? = some u → w.cell? (ad.add j) = some u) (h1 : ∀ u ∈ news, u.oneCell' = true)
    (hroom : n + m ≤ cap) (hr : n + m = r) (hg : w.heap[g]? = some (.cells cur tt (0, 0))) (hfit : n * size + news.length ≤ cur.size)
    (h : ∀ w', w'.heap[g]? = some (.cells (splice cur.toList (n * size) news).toArray tt (0, 0)) → Only (fun k => k = g) w w' → K (a.put o.dst (.slice (some ⟨g, 0, none⟩) r cap)) w') :
    if Region.wanted o (yielded ops a.tmps) = true then Oper.wp P o a w K Q else E := by
  subst hr
  refine step_append_room hgd s x t ho e i size ht hi hsz g 0 n cap hs ad m c news hx hl hsrc h1 hroom ?_ ?_
  · intro j hj
    rw [Nat.zero_add]
    constructor
    · rw [blk_cells hg, Array.getElem?_eq_getElem (by omega)]; rfl
    · exact blk_free hg _
  · rw [Nat.zero_add]
    exact h _ (blk_setCells news _ w cur hg hfit) (only_setCells g news _ w)
/-- clear(s), s not empty, in a row that is known whole, elements of several cells. -/
theorem run_clear_rowK (w : World) (t ty e : TypeId) (i : TypeInfo) (z : Value) (g o n c : Nat) (cur : Array Value) (tt : TypeId) (zs : List Value) (ht : P.underlying t = some (.slice e)) (hi : P.info? e = some i) (hz : i.zero = some z)
    (hzs : (Builtin.zeroCells z.cells (n + 1)).toList = zs) (hg : w.heap[g]? = some (.cells cur tt (0, 0))) (hfit : o + zs.length ≤ cur.size) (h1 : ∀ v ∈ zs, v.oneCell' = true) :
    (Builtin.clear_ #[t] ty #[.slice (some ⟨g, o, none⟩) (n + 1) c]).run P w = .ok (.tuple #[]) (w.setRow g (splice cur.toList o zs).toArray) := by
  have hst := run_storeCells_at P g o tt zs 0 cur w hg (by simpa using hfit) h1
  rw [Nat.add_zero] at hst
  rw [show splice cur.toList o zs = cur.toList.take o ++ zs ++ cur.toList.drop (o + zs.length) by unfold splice; rw [List.append_assoc]]
  unfold Builtin.clear_
  simp only [List.append_assoc] at hst ⊢
  simp [run_underlying ht, zeroValue, typeInfo, hi, hz, hzs, hst]
theorem wp_clearK (hgd : o.guard = none) (s : Operand) (t e : TypeId) (i : TypeInfo) (z : Value) (g off n c : Nat) (cur : Array Value) (tt : TypeId) (zs : List Value)
    (ho : o.op = .call { callee := .builtin .clear, args := #[s], argTypes := #[t] }) (ht : P.underlying t = some (.slice e)) (hi : P.info? e = some i) (hz : i.zero = some z)
    (hzs : (Builtin.zeroCells z.cells (n + 1)).toList = zs) (hs : a.eval s = .slice (some ⟨g, off, none⟩) (n + 1) c) (hg : w.heap[g]? = some (.cells cur tt (0, 0))) (hfit : off + zs.length ≤ cur.size) (h1 : ∀ v ∈ zs, v.oneCell' = true)
    (h : ∀ w', w'.heap[g]? = some (.cells (splice cur.toList off zs).toArray tt (0, 0)) → Only (fun k => k = g) w w' → wpList P ops Q rest (a.put o.dst (.tuple #[])) w') : wpList P ops Q (o :: rest) a w :=
  wpList_plain hgd fun _ hK => by
    have hrun := run_clear_rowK (P := P) w t o.type e i z g off n c cur tt zs ht hi hz hzs hg hfit h1
    unfold Oper.wp execOp
    simp only [ho, resolve, invoke, builtin, Sem.run_bind, Sem.run_pure, Result.andThen_ok, List.map_toArray, List.map_cons, List.map_nil, hs, hrun]
    exact hK _ _ (h _ (setRow_heap w g cur _ tt _ hg) (only_setRow w g _))
end

theorem erase_get {α β : Type} {xs : List α} {ys : List β} {R : α → β → Prop} {k : Nat} (hr : ∀ (j : Nat) (a : α), xs[j]? = some a → ∃ b, ys[j]? = some b ∧ R a b) : ∀ (j : Nat) (a : α), (xs.eraseIdx k)[j]? = some a → ∃ b, (ys.eraseIdx k)[j]? = some b ∧ R a b := by
  intro j a hj
  rw [List.getElem?_eraseIdx] at hj ⊢
  by_cases h : j < k
  · rw [if_pos h] at hj ⊢; exact hr _ _ hj
  · rw [if_neg h] at hj ⊢; exact hr _ _ hj
theorem splice_del (L X1 X2 Z : List Value) (a b : Nat) (h1 : L.take a = X1) (ha : a ≤ L.length) (hb : b = a + X2.length) : ∃ R, splice (splice L a X2) b Z = X1 ++ (X2 ++ R) := by
  have e1 : splice L a X2 = X1 ++ (X2 ++ L.drop (a + X2.length)) := by rw [← h1]; rfl
  have hl : X1.length = a := by rw [← h1, List.length_take]; omega
  have e2 : (splice L a X2).take b = X1 ++ X2 := by
    rw [e1, ← List.append_assoc]
    exact List.take_left' (by rw [List.length_append, hl]; omega)
  refine ⟨Z ++ (splice L a X2).drop (b + Z.length), ?_⟩
  show (splice L a X2).take b ++ (Z ++ _) = _
  rw [e2, List.append_assoc]
theorem sl_mid (g n cap k : Nat) (h : k < n) (hc : n ≤ cap) (_hm : cap ≤ 9223372036854775807) (W : World) : (Instr.slice 26 (.slice (some ⟨g, 0, none⟩) n cap) (some (.int .i64 (k : Int))) (some (.int .i64 ((k : Int) + 1))) (some (.int .i64 (n : Int)))).run Tryz.prog W = .ok (.slice (some ⟨g, k * 6, none⟩) 1 (n - k)) W := by
  have e2 : (k : Int) + 1 ≤ (n : Int) := by omega
  have e3 : (n : Int) ≤ (cap : Int) := by omega
  have e4 : ((k : Int) + 1).toNat = k + 1 := by omega
  have e5 : (0 : Int) ≤ (k : Int) + 1 := by omega
  have e6 : ¬ n = k := by omega
  simp [Instr.slice, Instr.sliceBounds, go_sem, e2, e3, e4, e5, e6]
theorem sl_last (g n1 n cap : Nat) (hn : n = n1 + 1) (hc : n ≤ cap) (_hm : cap ≤ 9223372036854775807) (W : World) : (Instr.slice 26 (.slice (some ⟨g, 0, none⟩) n1 cap) (some (.int .i64 (n1 : Int))) (some (.int .i64 (n : Int))) none).run Tryz.prog W = .ok (.slice (some ⟨g, n1 * 6, none⟩) 1 (cap - n1)) W := by
  have e3 : (n : Int) ≤ (cap : Int) := by omega
  have e6 : ¬ cap = n1 := by omega
  have e7 : n - n1 = 1 := by omega
  simp [Instr.slice, Instr.sliceBounds, go_sem, e3, e6, e7]
  intro h; omega

section
variable (d B : Nat) (w : World) (ok : Nat → Prop) (v : Value) (xs : List Fld)
set_option maxRecDepth 100000 in
set_option maxHeartbeats 4000000 in
theorem delete_row (k n n1 g cap : Nat) (cur : Array Value) (X1 X2 : List Value) (hk : k < n) (hn : n = n1 + 1) (hnc : n ≤ cap) (hcap : cap ≤ 9223372036854775807) (hg : w.heap[g]? = some (.cells cur 37 (0, 0)))
    (hcs : cur.size = cap * 6) (h1 : cur.toList.take (k * 6) = X1) (h2 : (cur.toList.drop ((k + 1) * 6)).take ((n1 - k) * 6) = X2) (hx1 : ∀ u ∈ X2, u.oneCell' = true) :
    Calls Tryz.prog 103 #[.slice (some ⟨g, 0, none⟩) n cap, .int .i64 (k : Int), .int .i64 ((k : Int) + 1)] w fun e w' =>
      e = .returned (.slice (some ⟨g, 0, none⟩) n1 cap) ∧ (∃ R, w'.heap[g]? = some (.cells (X1 ++ (X2 ++ R)).toArray 37 (0, 0)) ∧ (X1 ++ (X2 ++ R)).length = cap * 6) ∧ Only (fun j => j = g) w w' := by
  obtain ⟨i0, hif, hzz⟩ := Option.map_eq_some_iff.1 Tryz.infoFc
  simp only [Prod.mk.injEq] at hzz
  have HI := Ap.of (And.intro hif hzz)
  have t0 : ((k : Int) == (k : Int) + 1) = false := by simp; omega
  have slA := sl_mid g n cap k hk hnc hcap
  have slB := sl_to (some ⟨g, 0, none⟩) n cap k _ rfl (by omega) hcap (by omega)
  have slC := sl_from (some ⟨g, 0, none⟩) n cap (k + 1) ((k : Int) + 1) (by omega) (by omega) hnc hcap
  have slD := sl_last g n1 n cap hn hnc hcap
  obtain ⟨ad, had, hadd⟩ : ∃ ad : Addr, (if cap = k + 1 then (some (⟨g, 0, none⟩ : Addr)) else (some (⟨g, 0, none⟩ : Addr)).map (·.add ((k + 1) * 6))) = some ad ∧ (k + 1 < n → ad = ⟨g, (k + 1) * 6, none⟩) := by
    by_cases hc : cap = k + 1
    · exact ⟨⟨g, 0, none⟩, by rw [if_pos hc], fun h => by omega⟩
    · exact ⟨⟨g, (k + 1) * 6, none⟩, by rw [if_neg hc, Option.map_some, Addr.add_lit, Nat.zero_add], fun _ => rfl⟩
  rw [had] at slC
  have hm : n - (k + 1) = n1 - k := by omega
  rw [hm] at slC
  have hX2 : X2.length = (n1 - k) * 6 := by
    rw [← h2, List.length_take, List.length_drop, Array.length_toList, hcs]
    omega
  have hsrc : ∀ (j : Nat) (u : Value), X2[j]? = some u → w.drew.cell? (ad.add j) = some u := by
    intro j u hj
    have hjl : j < X2.length := (List.getElem?_eq_some_iff.1 hj).1
    have hlt : k + 1 < n := by
      rcases Nat.lt_or_ge (k + 1) n with h | h
      · exact h
      · rw [hX2, show n1 - k = 0 by omega] at hjl; omega
    rw [hadd hlt, Addr.add_lit, blk_cells (blk_draw hg)]
    rw [← h2, List.getElem?_take] at hj
    split at hj
    · rw [List.getElem?_drop] at hj
      rw [← Array.getElem?_toList]
      exact hj
    · cases hj
  have hL : cur.toList.length = cap * 6 := by rw [Array.length_toList]; exact hcs
  have hfit : k * 6 + X2.length ≤ cur.size := by rw [hcs, hX2]; omega
  have hspl : (splice cur.toList (k * 6) X2).toArray.size = cap * 6 := by
    rw [List.size_toArray, length_splice _ _ _ (by rw [Array.length_toList]; exact hfit)]; exact hL
  have hzc : (Builtin.zeroCells (Value.agg #[.string ⟨#[]⟩, .int .i64 0, .int .i64 0, .string ⟨#[]⟩, .slice none 0 0, .slice none 0 0]).cells (0 + 1)).toList = [.string ⟨#[]⟩, .int .i64 0, .int .i64 0, .string ⟨#[]⟩, .slice none 0 0, .slice none 0 0] := by kernel_rfl
  have hfit2 : n1 * 6 + [Value.string ⟨#[]⟩, .int .i64 0, .int .i64 0, .string ⟨#[]⟩, .slice none 0 0, .slice none 0 0].length ≤ (splice cur.toList (k * 6) X2).toArray.size := by rw [hspl]; show n1 * 6 + 6 ≤ _; omega
  have hone : ∀ v ∈ [Value.string ⟨#[]⟩, .int .i64 0, .int .i64 0, .string ⟨#[]⟩, .slice none 0 0, .slice none 0 0], v.oneCell' = true := by
    intro v hv
    simp only [List.mem_cons, List.not_mem_nil, or_false] at hv
    rcases hv with rfl | rfl | rfl | rfl | rfl | rfl <;> rfl
  obtain ⟨R, hR⟩ := splice_del cur.toList X1 X2 [.string ⟨#[]⟩, .int .i64 0, .int .i64 0, .string ⟨#[]⟩, .slice none 0 0, .slice none 0 0] (k * 6) (n1 * 6) h1 (by omega) (by rw [hX2]; omega)
  have hlen : (splice (splice cur.toList (k * 6) X2) (n1 * 6) [.string ⟨#[]⟩, .int .i64 0, .int .i64 0, .string ⟨#[]⟩, .slice none 0 0, .slice none 0 0]).length = cap * 6 := by
    rw [length_splice _ _ _ (by have := hfit2; rw [List.size_toArray] at this; exact this), ← hspl, List.size_toArray]
  have HRS := Ap.of (And.intro hR hlen)
  have HG := Ap.of hg
  have HF := Ap.of (And.intro hsrc (And.intro hX2 (And.intro hx1 (And.intro hfit (And.intro hzc (And.intro hfit2 hone))))))
  have HR := Ap.of (And.intro (show k + (n1 - k) ≤ cap by omega) (show k + (n1 - k) = n1 by omega))
  have hkn : k ≤ cap := by omega
  have hk1 : k + 1 ≤ n := by omega
  clear hif hzz hg hcs h1 h2 hx1 hn hk had hadd hm hX2 hsrc hL hfit hspl hzc hfit2 hone hR hlen
  have hk0 : (0 : Int) ≤ (k : Int) + 1 := by omega
  have hw1 : IntKind.i64.wrap ((k : Int) + 1) = (k : Int) + 1 := by rw [IntKind.wrap_i64]; omega
  go_enter Tryz.func103, Tryz.ntmps103
  go_wp2_with fail
  go_region_law (refine step_append_roomK rfl (.tmp 22) (.tmp 25) 26 37 i0 6 g k cap n1 cur 37 ad (n1 - k) (cap - (k + 1)) X2 rfl Tryz.underlying26 HI.out.1 HI.out.2.2.1 (by simp [Act.eval, Act.put]) (by simp [Act.eval, Act.put]) HF.out.2.1 HF.out.1 HF.out.2.2.1 HR.out.1 HR.out.2 (blk_draw HG.out) HF.out.2.2.2.1 ?_; intro w5 hg5 hon5)
  have HG5 := Ap.of hg5
  have HN5 := Ap.of (show Only (fun j => j = g) w w5 from (Only.of_below (bel_draw w) _).trans hon5 (fun i hi => .inl hi))
  clear hg5 hon5
  go_wp2_with (refine wp_clearK rfl (.tmp 31) 26 37 i0 _ g (n1 * 6) 0 (cap - n1) (splice cur.toList (k * 6) X2).toArray 37 [.string ⟨#[]⟩, .int .i64 0, .int .i64 0, .string ⟨#[]⟩, .slice none 0 0, .slice none 0 0] rfl Tryz.underlying26 HI.out.1 HI.out.2.1 HF.out.2.2.2.2.1 (by simp [Act.eval]) HG5.out HF.out.2.2.2.2.2.1 HF.out.2.2.2.2.2.2 ?_)
  intro w6 hg6 hon6
  have HG6 := Ap.of hg6
  have HN6 := Ap.of hon6
  clear hg6 hon6
  go_wp2_with fail
  go_ret
  refine ⟨rfl, ⟨R, ?_, ?_⟩, HN5.out.trans HN6.out (fun i hi => .inl hi)⟩
  · rw [← HRS.out.1]; exact HG6.out
  · rw [← HRS.out.1]; exact HRS.out.2

theorem delete_calls (k : Nat) (hk : k < xs.length) (hO : Own (KFld (KV d)) 37 B w ok v xs) :
    Calls Tryz.prog 103 #[v, .int .i64 (k : Int), .int .i64 ((k : Int) + 1)] w fun e w' =>
      ∃ v', e = .returned v' ∧ Own (KFld (KV d)) 37 B w' ok v' (xs.eraseIdx k) ∧ Only (fun j => v.ownBlock = some j) w w' := by
  obtain ⟨g, cap, cur, css, rfl, hBg, hokg, hg, hlc, hcm, hcs, ht, hcl, hc, hr⟩ := hO.opened (by omega)
  have hcm' := hcm
  unfold maxLen at hcm'
  have hsz := KFld_sz d
  rw [hsz] at hcs ht
  have hcl6 : ∀ cs ∈ css, cs.length = 6 := fun cs h => by rw [(hc cs h).1, hsz]
  obtain ⟨n1, hn1⟩ : ∃ n1, xs.length = n1 + 1 := ⟨xs.length - 1, by omega⟩
  obtain ⟨f1, _⟩ := flat_take css 6 hcl6 k (by omega)
  obtain ⟨_, f2⟩ := flat_take css 6 hcl6 (k + 1) (by omega)
  have h1 : cur.toList.take (k * 6) = (css.take k).flatten := by
    rw [← f1, ← ht, List.take_take, Nat.min_eq_left (by omega)]
  have h2 : (cur.toList.drop ((k + 1) * 6)).take ((n1 - k) * 6) = (css.drop (k + 1)).flatten := by
    rw [← f2, ← ht, List.drop_take, ← Nat.sub_mul, show xs.length - (k + 1) = n1 - k by omega]
  have hx1 : ∀ u ∈ (css.drop (k + 1)).flatten, u.oneCell' = true := fun u hu => by
    obtain ⟨l, hl, hu⟩ := List.mem_flatten.1 hu
    exact (hc l (List.mem_of_mem_drop hl)).2 u hu
  have her : css.eraseIdx k = css.take k ++ css.drop (k + 1) := List.eraseIdx_eq_take_drop_succ ..
  have hfl : (css.eraseIdx k).flatten = (css.take k).flatten ++ (css.drop (k + 1)).flatten := by rw [her, List.flatten_append]
  have hlen : (xs.eraseIdx k).length = n1 := by rw [List.length_eraseIdx_of_lt hk]; omega
  have hlen2 : (css.eraseIdx k).length = n1 := by rw [List.length_eraseIdx_of_lt (by omega)]; omega
  have htk : ∀ R : List Value, ((css.take k).flatten ++ ((css.drop (k + 1)).flatten ++ R)).take (n1 * 6) = (css.eraseIdx k).flatten := fun R => by
    rw [← List.append_assoc, ← hfl]
    refine List.take_left' ?_
    rw [flat_len _ 6 (fun l hl => hcl6 l (List.mem_of_mem_eraseIdx hl)), hlen2]
  refine (delete_row w k xs.length n1 g cap cur _ _ hk hn1 hlc hcm' hg hcs h1 h2 hx1).mono ?_
  rintro e w' ⟨rfl, ⟨R, hg', hl'⟩, hon⟩
  refine ⟨_, rfl, ?_, hon.mono (fun j hj => by rw [hj]; rfl)⟩
  rw [← hlen]
  refine Own.closed (css := css.eraseIdx k) hBg hokg hg' (by rw [hlen]; omega) hcm (by rw [hsz, List.size_toArray]; exact hl') (by rw [hsz, hlen]; exact htk R) (by rw [hlen, hlen2]) ?_
  refine erase_get (R := fun x y => (KFld (KV d)).R w' (fun k => ok k ∧ k ≠ g) x y) (fun j a hj => ?_)
  obtain ⟨b, e1, e2⟩ := hr j a hj
  exact ⟨b, e1, Knd.only e2 hon (fun k hk => hk.2)⟩
end

/-- A value less what was asked, or as it was. -/
def CutP (d : Nat) (w : World) (ok : Nat → Prop) (x : Val) (o : Option Val) (e : Ending) (w' : World) : Prop :=
  ∃ (y : Val) (la : Option Addr) (ln lc : Nat) (fa : Option Addr) (fn fc : Nat), e = .returned (.tuple #[.agg #[.int .i64 y.kind, .int .i64 y.int, .string y.text, .slice la ln lc, .slice fa fn fc], .bool o.isSome]) ∧ y = o.getD x ∧
    (KV d).R w' (fun k => ok k ∨ w.heap.size ≤ k) y [.int .i64 y.kind, .int .i64 y.int, .string y.text, .slice la ln lc, .slice fa fn fc] ∧ Below w.heap.size w w'
theorem CutP.mk {d : Nat} {w w' : World} {ok : Nat → Prop} {x y : Val} {o : Option Val} {k n : Int} {s : ByteArray} {b : Bool} {la : Option Addr} {ln lc : Nat} {fa : Option Addr} {fn fc : Nat} (hk : k = y.kind) (hn : n = y.int) (hs : s = y.text) (hb : b = o.isSome) (hy : y = o.getD x)
    (h : (KV d).R w' (fun k => ok k ∨ w.heap.size ≤ k) y [.int .i64 y.kind, .int .i64 y.int, .string y.text, .slice la ln lc, .slice fa fn fc]) (hbl : Below w.heap.size w w') :
    CutP d w ok x o (.returned (.tuple #[.agg #[.int .i64 k, .int .i64 n, .string s, .slice la ln lc, .slice fa fn fc], .bool b])) w' := by
  subst hk hn hs hb
  exact ⟨y, la, ln, lc, fa, fn, fc, rfl, hy, h, hbl⟩
theorem del_cases (x : Val) (name : ByteArray) : (x.del name = none ∧ x.at name = -1) ∨ ∃ k : Nat, x.kind = 5 ∧ k < x.fields.length ∧ x.at name = (k : Int) ∧ x.del name = some (x.setFields (x.fields.eraseIdx k)) := by
  unfold Val.del Val.at
  by_cases h5 : x.kind = 5
  · rw [if_pos h5, if_pos h5]
    unfold fIdx
    cases hf : x.fields.findIdx? (fun f => decide (f.1 = name)) with
    | none => exact .inl ⟨rfl, rfl⟩
    | some k => exact .inr ⟨k, h5, (List.findIdx?_eq_some_iff_getElem.1 hf).1, rfl, rfl⟩
  · rw [if_neg h5, if_neg h5]
    exact .inl ⟨rfl, rfl⟩

set_option maxRecDepth 100000 in
set_option maxHeartbeats 4000000 in
theorem del_calls (D : Nat) (x : Val) (la : Option Addr) (ln lc : Nat) (fa : Option Addr) (fn fc : Nat) (name : ByteArray) (ok : Nat → Prop) (w : World) (hfl : x.fields.length ≤ 1000) (hx : (KV (D + 2)).R w ok x [.int .i64 x.kind, .int .i64 x.int, .string x.text, .slice la ln lc, .slice fa fn fc]) :
    Calls Tryz.prog 65 #[.agg #[.int .i64 x.kind, .int .i64 x.int, .string x.text, .slice la ln lc, .slice fa fn fc], .string name] w (CutP (D + 2) w ok x (x.del name)) := by
  obtain ⟨hxk, hxi, hxt, hxl, hxf⟩ := KV_parts hx
  have hb2 := bel_step (bel_alloc w (.cells #[.int .i64 x.kind, .int .i64 x.int, .string x.text, .slice la ln lc, .slice fa fn fc] 28)) (bel_alloc _ (.cells #[.int .i64 0, .int .i64 0, .string ⟨#[]⟩, .slice none 0 0, .slice none 0 0] 28))
  have hat := at_calls D x la ln lc fa fn fc name ok _ (Knd.below hx hb2)
  have HAT := Ap.of hat
  have HPT := Ap.of (And.intro hxk (And.intro hxi (And.intro hxt hxl.bound)))
  have HX := Ap.of ((KV (D + 2)).bound hx)
  have HXF := Ap.of hxf.bound
  have HB2 := Ap.of hb2
  have HLN := Ap.of hxf.length
  have bx := blk_old (o' := .cells #[.int .i64 0, .int .i64 0, .string ⟨#[]⟩, .slice none 0 0, .slice none 0 0] 28) (blk_new (w := w) (k := w.heap.size) (o := .cells #[.int .i64 x.kind, .int .i64 x.int, .string x.text, .slice la ln lc, .slice fa fn fc] 28) rfl)
  have br := blk_new (w := w.alloc (.cells #[.int .i64 x.kind, .int .i64 x.int, .string x.text, .slice la ln lc, .slice fa fn fc] 28)) (k := w.heap.size + 1) (o := .cells #[.int .i64 0, .int .i64 0, .string ⟨#[]⟩, .slice none 0 0, .slice none 0 0] 28) (by simp)
  have HBX := Ap.of bx
  have HBR := Ap.of br
  have hdc := del_cases x name
  clear hat hx hb2 hxk hxi hxt hxl hxf bx br
  rcases hdc with ⟨hd, ha⟩ | ⟨k, h5, hkl, ha, hd⟩
  · rw [ha] at HAT
    rw [hd]
    clear hd ha
    generalize hx0 : x.kind = xk at *
    generalize hx1 : x.int = xi at *
    generalize hx2 : x.text = xt at *
    go_enter Tryz.func65, Tryz.ntmps65
    go_wp2_with fail
    refine HAT.out.mono ?_
    rintro e w1 ⟨rfl, hb⟩
    have HB3 := Ap.of (bel_step HB2.out hb)
    have bx1 := blk_bel HBX.out hb
    have br1 := blk_bel HBR.out hb
    have cx := blk_cells bx1
    have lx := blk_lt bx1
    have cr := blk_cells br1
    have fr := blk_free br1
    have lr := blk_lt br1
    clear hb bx1 br1
    go_wp2_with fail
    have hs := only5 w1 (w.heap.size + 1) (.int .i64 xk) (.int .i64 xi) (.string xt) (.slice la ln lc) (.slice fa fn fc)
    exact bodyPost_ret (v := .tuple #[.agg #[.int .i64 xk, .int .i64 xi, .string xt, .slice la ln lc, .slice fa fn fc], .bool false]) (by simp [results, Tryz.results65, go_sem, cr]) rfl
      (CutP.mk hx0.symm hx1.symm hx2.symm rfl rfl (by rw [hx0, hx1, hx2]; exact (KV (D + 2)).mono (fun k hk => .inl hk.1) (Knd.only (Knd.below HX.out HB3.out) hs (fun j hj he => by have := hj.2; omega))) (bel_only HB3.out HB3.out.size hs (fun j he => by omega)))
  · rw [ha] at HAT
    rw [hd]
    have HKL := Ap.of hkl
    have hcl := fun W (hW : Below w.heap.size w W) => clonef_calls (D + 1) fa fn fc (fun k => ok k ∧ k < w.heap.size) W x.fields (by rw [← HLN.out]; omega) (HXF.out.below hW)
    have HCL := Ap.of hcl
    have hk0 : decide ((k : Int) < 0) = false := by simp
    have hkb : k < 1000 := by omega
    have H5 := Ap.of h5
    clear hd ha hkl hcl h5
    generalize hx0 : x.kind = xk at *
    generalize hx1 : x.int = xi at *
    generalize hx2 : x.text = xt at *
    go_enter Tryz.func65, Tryz.ntmps65
    go_wp2_with fail
    refine HAT.out.mono ?_
    rintro e w1 ⟨rfl, hb⟩
    have HB3 := Ap.of (bel_step HB2.out hb)
    have HBX1 := Ap.of (blk_bel HBX.out hb)
    have HBR1 := Ap.of (blk_bel HBR.out hb)
    have cx := blk_cells HBX1.out
    have lx := blk_lt HBX1.out
    clear hb
    go_wp2_with fail
    refine (HCL.out _ HB3.out).mono ?_
    rintro e w2 ⟨l, rfl, hO, hb⟩
    have hO1 := hO.mono (ok' := fun k => (ok k ∧ k < w.heap.size) ∨ w1.heap.size ≤ k) (fun k hk => hk.elim (fun h => .inl h.1) .inr)
    have HB4 := Ap.of (bel_step HB3.out hb)
    have HLT := Ap.of hO1.lt
    have bx2 := blk_bel HBX1.out hb
    have br2 := blk_bel HBR1.out hb
    have HBX2 := Ap.of bx2
    have HBR2 := Ap.of br2
    have hdel := delete_calls (D + 1) w1.heap.size w2 _ l x.fields k HKL.out hO1
    have HDEL := Ap.of hdel
    have l1 : w.heap.size + 1 < w1.heap.size := blk_lt HBR1.out
    clear hO hO1 hb bx2 br2 hdel cx lx
    go_wp2_with fail
    refine HDEL.out.mono ?_
    rintro e w3 ⟨v', rfl, hO3, hon⟩
    obtain ⟨A3, c3, hv3, hrow⟩ := hO3.row
    have hlen : (x.fields.eraseIdx k).length = fn - 1 := by rw [List.length_eraseIdx_of_lt HKL.out, HLN.out]
    rw [hlen] at hv3 hrow
    subst hv3
    have HROW := Ap.of hrow
    have HB5 := Ap.of (bel_only HB4.out HB4.out.size hon (fun j he => by have := (HLT.out j he).1; omega))
    have bx3 := blk_only HBX2.out hon (fun he => by have := (HLT.out _ he).1; omega)
    have br3 := blk_only HBR2.out hon (fun he => by have := (HLT.out _ he).1; omega)
    have dx := blk_cells bx3
    have fx := blk_free bx3
    have mx := blk_lt bx3
    have dr := blk_cells br3
    have fr := blk_free br3
    have mr := blk_lt br3
    clear hO3 hrow hon bx3 br3
    generalize fn - 1 = fm at *
    go_wp2_with fail
    have hs := (Only.mono (Only.setCell w3 ⟨w.heap.size, 4, none⟩ (.slice A3 fm c3)) (S' := fun j => j = w.heap.size ∨ j = w.heap.size + 1) (fun _ hi => .inl hi)).trans (only5 _ (w.heap.size + 1) (.int .i64 xk) (.int .i64 xi) (.string xt) (.slice la ln lc) (.slice A3 fm c3)) (fun _ hi => .inl (.inr hi))
    exact bodyPost_ret (v := .tuple #[.agg #[.int .i64 xk, .int .i64 xi, .string xt, .slice la ln lc, .slice A3 fm c3], .bool true]) (by simp [results, Tryz.results65, go_sem, dr]) rfl
      (CutP.mk (y := x.setFields (x.fields.eraseIdx k)) hx0.symm hx1.symm hx2.symm rfl rfl
        ⟨la, ln, lc, A3, fm, c3, rfl, (by show inI64 x.kind; rw [hx0]; exact HPT.out.1), (by show inI64 x.int; rw [hx1]; exact HPT.out.2.1), (by show x.text.size ≤ maxLen; rw [hx2]; exact HPT.out.2.2.1),
          ((Row.below HPT.out.2.2.2 HB5.out).only hs (fun j hj he => by have := hj.2; omega)).mono (fun _ hk => .inl hk.1), (HROW.out.only hs (fun j hj he => by omega)).mono (fun k hk => hk.elim (fun h => .inl h.1) (fun h => .inr (by omega)))⟩
        (bel_only HB5.out HB5.out.size hs (fun j he => by omega)))
end Go.Proofs.YtlomieopppndeaaGreatDoor
