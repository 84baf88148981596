/- Rows of one's own, of elements of several cells: what is copied, appended, cleared: laws. -/
import Derived.Test.YtlomieopppndeaaDoorData
import Derived.Laws.CopyRow
import Derived.Laws.CopyOwn
import Derived.Laws.IdiomCopy
import Derived.Lib.AppendZerosOnto
import Derived.Lib.Overlaps
import Derived.Laws.Externs
namespace Go.Proofs.YtlomieopppndeaaDoor
open Go.RowKit

theorem choose_list {α β : Type} : ∀ (xs : List α) (P : Nat → α → β → Prop), (∀ i x, xs[i]? = some x → ∃ b, P i x b) → ∃ bs : List β, bs.length = xs.length ∧ ∀ i x, xs[i]? = some x → ∃ b, bs[i]? = some b ∧ P i x b
  | [], _, _ => ⟨[], rfl, fun i x h => by simp at h⟩
  | a :: r, P, h => by
    obtain ⟨b, hb⟩ := h 0 a rfl
    obtain ⟨bs, hl, hr⟩ := choose_list r (fun i x b => P (i + 1) x b) (fun i x hx => h (i + 1) x hx)
    refine ⟨b :: bs, by simp [hl], fun i x hx => ?_⟩
    cases i with
    | zero => simp at hx; subst hx; exact ⟨b, rfl, hb⟩
    | succ i => exact hr i x hx
theorem flat_get : ∀ (css : List (List Value)) (sz : Nat), 0 < sz → (∀ cs ∈ css, cs.length = sz) → ∀ (j : Nat) (u : Value), css.flatten[j]? = some u → ∃ cs, css[j / sz]? = some cs ∧ cs[j % sz]? = some u
  | [], _, _, _, j, u, h => by simp at h
  | a :: r, sz, hz, hl, j, u, h => by
    have ha := hl a (by simp)
    rw [List.flatten_cons] at h
    by_cases hj : j < sz
    · rw [List.getElem?_append_left (by omega)] at h
      exact ⟨a, by rw [Nat.div_eq_of_lt hj]; rfl, by rw [Nat.mod_eq_of_lt hj]; exact h⟩
    · rw [List.getElem?_append_right (by omega), ha] at h
      obtain ⟨cs, h1, h2⟩ := flat_get r sz hz (fun cs hc => hl cs (by simp [hc])) (j - sz) u h
      have hs : j = (j - sz) + sz := by omega
      refine ⟨cs, ?_, ?_⟩
      · rw [hs, Nat.add_div_right _ hz]; exact h1
      · rw [hs, Nat.add_mod_right]; exact h2
theorem flat_len : ∀ (css : List (List Value)) (sz : Nat), (∀ cs ∈ css, cs.length = sz) → css.flatten.length = css.length * sz
  | [], _, _ => by simp
  | a :: r, sz, hl => by
    rw [List.flatten_cons, List.length_append, hl a (by simp), flat_len r sz (fun cs hc => hl cs (by simp [hc])), List.length_cons, Nat.succ_mul]
    omega
theorem flat_take (css : List (List Value)) (sz : Nat) (hl : ∀ cs ∈ css, cs.length = sz) (i : Nat) (hi : i ≤ css.length) : css.flatten.take (i * sz) = (css.take i).flatten ∧ css.flatten.drop (i * sz) = (css.drop i).flatten := by
  have h1 : (css.take i).flatten.length = i * sz := by
    rw [flat_len _ sz (fun cs hc => hl cs (List.mem_of_mem_take hc)), List.length_take, Nat.min_eq_left hi]
  have h2 : css.flatten = (css.take i).flatten ++ (css.drop i).flatten := by rw [← List.flatten_append, List.take_append_drop]
  exact ⟨by rw [h2, ← h1, List.take_left], by rw [h2, ← h1, List.drop_left]⟩

section
variable {α : Type} {K : Knd α} {w w' : World} {ok : Nat → Prop} {xs : List α} {A : Option Addr} {n c : Nat}
/-- The cells of a row's elements, one behind the other. -/
theorem Row.flat (h : Row K w ok A n c xs) (hz : 0 < K.sz) (a : Addr) (hA : A = some a) : ∃ css : List (List Value), css.length = xs.length ∧ (∀ (i : Nat) (x : α), xs[i]? = some x → ∃ cs, css[i]? = some cs ∧ K.R w ok x cs) ∧ css.flatten.length = n * K.sz ∧
    (∀ cs ∈ css, cs.length = K.sz) ∧ (∀ (j : Nat) (u : Value), css.flatten[j]? = some u → w.cell? (a.add j) = some u) ∧ ∀ u ∈ css.flatten, u.oneCell' = true := by
  rcases h with ⟨e, _⟩ | ⟨g, off, h1, h2, h3, h4, h5, h6, h7⟩
  · rw [hA] at e; cases e
  obtain rfl : a = ⟨g, off, none⟩ := by rw [hA] at h1; injection h1
  obtain ⟨css, hl, hr⟩ := choose_list xs (fun i x cs => K.R w ok x cs ∧ CellsAt w g (off + i * K.sz) cs) h7
  have hcl : ∀ cs ∈ css, cs.length = K.sz ∧ ∀ u ∈ cs, u.oneCell' = true := by
    intro cs hcs
    obtain ⟨i', hi', he⟩ := List.getElem_of_mem hcs
    have hx' : xs[i']? = some (xs[i']'(by omega)) := List.getElem?_eq_getElem (by omega)
    obtain ⟨cs', a', b', _⟩ := hr i' _ hx'
    have : css[i']? = some cs := by rw [List.getElem?_eq_getElem hi', he]
    rw [this] at a'
    injection a' with a'
    subst a'
    exact ⟨K.len b', K.one b'⟩
  refine ⟨css, hl, fun i x hx => by obtain ⟨cs, e1, e2, _⟩ := hr i x hx; exact ⟨cs, e1, e2⟩, by rw [flat_len css K.sz (fun cs hc => (hcl cs hc).1), hl, h2], fun cs hc => (hcl cs hc).1, fun j u hj => ?_, fun u hu => ?_⟩
  · obtain ⟨cs, e1, e2⟩ := flat_get css K.sz hz (fun cs hc => (hcl cs hc).1) j u hj
    have hlt : j / K.sz < xs.length := by rw [← hl]; exact (List.getElem?_eq_some_iff.1 e1).1
    obtain ⟨cs', e3, _, e4⟩ := hr (j / K.sz) _ (List.getElem?_eq_getElem hlt)
    rw [e1] at e3
    injection e3 with e3
    subst e3
    have := e4 (j % K.sz) u e2
    rw [show off + j / K.sz * K.sz + j % K.sz = off + j by rw [Nat.add_assoc, Nat.mul_comm (j / K.sz), Nat.div_add_mod]] at this
    rw [show (⟨g, off, none⟩ : Addr).add j = ⟨g, off + j, none⟩ from by simp [Addr.add]]
    exact this
  · obtain ⟨cs, hc, hu'⟩ := List.mem_flatten.1 hu
    exact (hcl cs hc).2 u hu'
end

section
variable {P : Program} {w : World} {ops : Array Oper} {rest : List Oper} {o : Oper} {a : Act} {Q : Exit → Act → World → Prop} {K : Act → World → Prop} {E : Prop}
/-- copy(d, s), d in a row that is known whole, elements of several cells. -/
theorem run_copy_rowK (w : World) (dT sT ty elem : TypeId) (i : TypeInfo) (g off dLen dCap : Nat) (ad : Addr) (sLen sCap : Nat) (cur : Array Value) (t : TypeId) (cs : List Value) (m : Nat)
    (hu : P.underlying dT = some (.slice elem)) (hi : P.info? elem = some i) (hg : w.heap[g]? = some (.cells cur t (0, 0))) (hm : Nat.min sLen dLen = m) (hn : cs.length = m * i.size)
    (hsrc : ∀ j v, cs[j]? = some v → w.cell? (ad.add j) = some v) (hfit : off + cs.length ≤ cur.size) (h1 : ∀ v ∈ cs, v.oneCell' = true) :
    (Builtin.copy_ #[dT, sT] ty #[.slice (some ⟨g, off, none⟩) dLen dCap, .slice (some ad) sLen sCap]).run P w = .ok (goInt m) (w.setRow g (splice cur.toList off cs).toArray) := by
  have hl := run_firstCells_some (P := P) w i.size m ad sLen sCap cs hn hsrc
  have hst := run_storeCells_at P g off t cs 0 cur w hg (by simpa using hfit) h1
  rw [Nat.add_zero] at hst
  rw [show splice cur.toList off cs = cur.toList.take off ++ cs ++ cur.toList.drop (off + cs.length) by unfold splice; rw [List.append_assoc]]
  unfold Builtin.copy_
  simp only [Sem.run_bind, List.getElem?_toArray, List.getElem?_cons_zero, List.getElem?_cons_succ]
  simp only [run_underlying hu, Result.andThen_ok, Sem.run_bind, Builtin.lenOf, Sem.run_pure, hm, sizeOf, typeInfo]
  simp only [List.append_assoc] at hst ⊢
  simp [hi, hl, hst]
theorem only_setRow (w : World) (g : Nat) (cs : Array Value) : Only (fun k => k = g) w (w.setRow g cs) := ⟨rfl, rfl, rfl, by simp [World.setRow], fun k _ hn => setRow_other w g k cs hn⟩
theorem op_copyK (d s : Operand) (dT sT elem : TypeId) (i : TypeInfo) (g off dLen dCap : Nat) (ad : Addr) (sLen sCap : Nat) (cur : Array Value) (t : TypeId) (cs : List Value) (m : Nat)
    (ho : o.op = .call { callee := .builtin .copy, args := #[d, s], argTypes := #[dT, sT] }) (hu : P.underlying dT = some (.slice elem)) (hi : P.info? elem = some i) (hd : a.eval d = .slice (some ⟨g, off, none⟩) dLen dCap) (hs : a.eval s = .slice (some ad) sLen sCap)
    (hg : w.heap[g]? = some (.cells cur t (0, 0))) (hm : Nat.min sLen dLen = m) (hn : cs.length = m * i.size) (hsrc : ∀ j v, cs[j]? = some v → w.cell? (ad.add j) = some v) (hfit : off + cs.length ≤ cur.size) (h1 : ∀ v ∈ cs, v.oneCell' = true)
    (h : ∀ w', w'.heap[g]? = some (.cells (splice cur.toList off cs).toArray t (0, 0)) → Only (fun k => k = g) w w' → K (a.put o.dst (goInt m)) w') : Oper.wp P o a w K Q := by
  have hrun := run_copy_rowK (P := P) w dT sT o.type elem i g off dLen dCap ad sLen sCap cur t cs m hu hi hg hm hn hsrc hfit h1
  unfold Oper.wp execOp
  simp only [ho, resolve, invoke, builtin, Sem.run_bind, Sem.run_pure, Result.andThen_ok, List.map_toArray, List.map_cons, List.map_nil, hd, hs, hrun]
  exact h _ (setRow_heap w g cur _ t _ hg) (only_setRow w g _)
theorem wp_copyK (hgd : o.guard = none) (d s : Operand) (dT sT elem : TypeId) (i : TypeInfo) (g off dLen dCap : Nat) (ad : Addr) (sLen sCap : Nat) (cur : Array Value) (t : TypeId) (cs : List Value) (m : Nat)
    (ho : o.op = .call { callee := .builtin .copy, args := #[d, s], argTypes := #[dT, sT] }) (hu : P.underlying dT = some (.slice elem)) (hi : P.info? elem = some i) (hd : a.eval d = .slice (some ⟨g, off, none⟩) dLen dCap) (hs : a.eval s = .slice (some ad) sLen sCap)
    (hg : w.heap[g]? = some (.cells cur t (0, 0))) (hm : Nat.min sLen dLen = m) (hn : cs.length = m * i.size) (hsrc : ∀ j v, cs[j]? = some v → w.cell? (ad.add j) = some v) (hfit : off + cs.length ≤ cur.size) (h1 : ∀ v ∈ cs, v.oneCell' = true)
    (h : ∀ w', w'.heap[g]? = some (.cells (splice cur.toList off cs).toArray t (0, 0)) → Only (fun k => k = g) w w' → wpList P ops Q rest (a.put o.dst (goInt m)) w') : wpList P ops Q (o :: rest) a w :=
  wpList_plain hgd fun _ hK => op_copyK d s dT sT elem i g off dLen dCap ad sLen sCap cur t cs m ho hu hi hd hs hg hm hn hsrc hfit h1 fun w' h2 h3 => hK _ _ (h w' h2 h3)
theorem step_copyK (hgd : o.guard = none) (d s : Operand) (dT sT elem : TypeId) (i : TypeInfo) (g off dLen dCap : Nat) (ad : Addr) (sLen sCap : Nat) (cur : Array Value) (t : TypeId) (cs : List Value) (m : Nat)
    (ho : o.op = .call { callee := .builtin .copy, args := #[d, s], argTypes := #[dT, sT] }) (hu : P.underlying dT = some (.slice elem)) (hi : P.info? elem = some i) (hd : a.eval d = .slice (some ⟨g, off, none⟩) dLen dCap) (hs : a.eval s = .slice (some ad) sLen sCap)
    (hg : w.heap[g]? = some (.cells cur t (0, 0))) (hm : Nat.min sLen dLen = m) (hn : cs.length = m * i.size) (hsrc : ∀ j v, cs[j]? = some v → w.cell? (ad.add j) = some v) (hfit : off + cs.length ≤ cur.size) (h1 : ∀ v ∈ cs, v.oneCell' = true)
    (h : ∀ w', w'.heap[g]? = some (.cells (splice cur.toList off cs).toArray t (0, 0)) → Only (fun k => k = g) w w' → K (a.put o.dst (goInt m)) w') : if Region.wanted o (yielded ops a.tmps) = true then Oper.wp P o a w K Q else E := by
  have hw : Region.wanted o (yielded ops a.tmps) = true := by simp [Region.wanted, hgd]
  rw [if_pos hw]
  exact op_copyK d s dT sT elem i g off dLen dCap ad sLen sCap cur t cs m ho hu hi hd hs hg hm hn hsrc hfit h1 h
theorem zeroCells_size (z : Array Value) (n : Nat) : (Builtin.zeroCells z n).size = n * z.size := by simp [Builtin.zeroCells]
/-- append(s, make(.., k)...), no room: a new row. -/
theorem wp_append_zeros (hgd : o.guard = none) (s x : Operand) (t tn e : TypeId) (i : TypeInfo) (z : Value) (kn : IntKind) (base : Addr) (sLen sCap : Nat) (olds : List Value) (k : Nat) (kq : IntKind)
    (ho : o.op = .call { callee := .builtin .append, args := #[s, x], argTypes := #[t, tn] }) (ht : P.underlying t = some (.slice e)) (htn : P.underlying tn = some (.int kn)) (hi : P.info? e = some i) (hz : i.zero = some z) (hzs : z.cells.size = i.size)
    (hs : a.eval s = .slice (some base) sLen sCap) (hx : a.eval x = .int kq (k : Int)) (hol : olds.length = sLen * i.size) (hold : ∀ j v, olds[j]? = some v → w.cell? (base.add j) = some v) (h0 : 0 < k) (hsz : 0 < i.size) (hg : sCap < sLen + k) (hby : (sLen + k) * i.bytes ≤ 140737488355328) (h63 : sLen + k ≤ 9223372036854775807)
    (h : ∀ w' (G : Nat) (Z : List Value), sLen + k ≤ G → G ≤ maxLen → Z.length = (G - sLen) * i.size → w'.heap[w.heap.size]? = some (.cells (olds ++ Z).toArray e (0, 0)) → Only (fun _ => False) w w' → w'.heap.size = w.heap.size + 1 → wpList P ops Q rest (a.put o.dst (.slice (some ⟨w.heap.size, 0, none⟩) (sLen + k) G)) w') : wpList P ops Q (o :: rest) a w := by
  have hfc : (Builtin.firstCells i.size sLen (.slice (some base) sLen sCap)).run P w.drew = .ok olds.toArray w.drew := run_firstCells_some (P := P) w.drew i.size sLen base sLen sCap olds hol hold
  have hrun := Lib.run_append_grow_zeros (P := P) w t tn o.type e i z kq kn ht htn hi hz (some base) sLen sCap olds hfc k h0 hsz hg (by omega) (by
    have : k * i.bytes ≤ (sLen + k) * i.bytes := Nat.mul_le_mul_right _ (by omega)
    omega) (growslice_fits hg hby)
  have hG := grownCap_ge w (sLen + k) sCap e
  refine Lib.wpList_append_run w hgd s x t tn ho _ _ hs hx _ _ hrun (h _ (grownCap w (sLen + k) sCap e) ((Builtin.zeroCells z.cells k).toList ++ (Builtin.zeroCells z.cells (grownCap w (sLen + k) sCap e - (sLen + k))).toList) hG (grownCap_le_maxLen w _ _ _ (by unfold maxLen; omega)) ?_ ?_ ?_ ?_)
  · rw [List.length_append, Array.length_toList, Array.length_toList, zeroCells_size, zeroCells_size, hzs, ← Nat.add_mul]
    congr 1
    omega
  · refine (blk_new (w := w.drew) (k := w.heap.size) rfl).trans ?_
    simp
  · exact Only.of_below ((bel_draw w).alloc (by simp) _) _
  · simp
end
end Go.Proofs.YtlomieopppndeaaDoor
