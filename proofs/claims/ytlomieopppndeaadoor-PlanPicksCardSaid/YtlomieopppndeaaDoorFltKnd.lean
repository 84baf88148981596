/- Filters where they lie in memory. -/
import Derived.Test.YtlomieopppndeaaDoorPathAwake
namespace Go.Proofs.YtlomieopppndeaaDoor
open Go.RowKit

theorem pathOk_parts {p : ByteArray} (h : pathOk p = true) : (∀ q ∈ partsOf p, q.size ≤ 281474976710656) ∧ (partsOf p).length ≤ maxLen := by
  unfold pathOk at h
  simp only [Bool.and_eq_true, Bool.not_eq_true', decide_eq_true_eq] at h
  obtain ⟨⟨h1, h2⟩, _⟩ := h
  refine ⟨fun q hq => ?_, by unfold maxLen; omega⟩
  have := List.any_eq_false.1 h1 q hq
  unfold oddB at this
  simp at this
  omega

theorem KV_shape {d : Nat} {w : World} {ok : Nat → Prop} {x : Val} {cs : List Value} (h : (KV (d + 1)).R w ok x cs) : ∃ (la : Option Addr) (ln lc : Nat) (fa : Option Addr) (fn fc : Nat), cs = [.int .i64 x.kind, .int .i64 x.int, .string x.text, .slice la ln lc, .slice fa fn fc] := by
  obtain ⟨la, ln, lc, fa, fn, fc, rfl, _⟩ := h
  exact ⟨la, ln, lc, fa, fn, fc, rfl⟩
section
variable {dv d : Nat} {w : World} {ok : Nat → Prop}
theorem KF_parts {f : Flt} {la : Option Addr} {ln lc : Nat} {fa : Option Addr} {fn fc : Nat} {sa : Option Addr} {sn sc : Nat} (h : (KF (dv + 1) (d + 1)).R w ok f [.int .i64 f.op, .string f.path, .int .i64 f.val.kind, .int .i64 f.val.int, .string f.val.text, .slice la ln lc, .slice fa fn fc, .slice sa sn sc]) :
    inI64 f.op ∧ f.path.size ≤ maxLen ∧ (KV (dv + 1)).R w ok f.val [.int .i64 f.val.kind, .int .i64 f.val.int, .string f.val.text, .slice la ln lc, .slice fa fn fc] ∧ Row (KF (dv + 1) d) w ok sa sn sc f.subs := by
  obtain ⟨vs, a, b, c, he, h1, h2, h3, h4⟩ := h
  obtain ⟨la', ln', lc', fa', fn', fc', rfl⟩ := KV_shape h3
  simp only [List.cons_append, List.nil_append, List.cons.injEq, Value.slice.injEq, and_true, true_and] at he
  obtain ⟨⟨rfl, rfl, rfl⟩, ⟨rfl, rfl, rfl⟩, rfl, rfl, rfl⟩ := he
  exact ⟨h1, h2, h3, h4⟩
theorem KF_mk {f : Flt} {la : Option Addr} {ln lc : Nat} {fa : Option Addr} {fn fc : Nat} {sa : Option Addr} {sn sc : Nat} (h1 : inI64 f.op) (h2 : f.path.size ≤ maxLen) (h3 : (KV (dv + 1)).R w ok f.val [.int .i64 f.val.kind, .int .i64 f.val.int, .string f.val.text, .slice la ln lc, .slice fa fn fc]) (h4 : Row (KF (dv + 1) d) w ok sa sn sc f.subs) :
    (KF (dv + 1) (d + 1)).R w ok f [.int .i64 f.op, .string f.path, .int .i64 f.val.kind, .int .i64 f.val.int, .string f.val.text, .slice la ln lc, .slice fa fn fc, .slice sa sn sc] := ⟨_, sa, sn, sc, rfl, h1, h2, h3, h4⟩
/-- The cells of an element of a row of filters. -/
theorem flt_cells {A : Option Addr} {n c : Nat} {xs : List Flt} (h : Row (KF (dv + 1) d) w ok A n c xs) {i : Nat} (hi : i < n) :
    ∃ (g off : Nat) (f : Flt) (la : Option Addr) (ln lc : Nat) (fa : Option Addr) (fn fc : Nat) (sa : Option Addr) (sn sc : Nat), A = some ⟨g, off, none⟩ ∧ xs[i]? = some f ∧ (KF (dv + 1) d).R w ok f [.int .i64 f.op, .string f.path, .int .i64 f.val.kind, .int .i64 f.val.int, .string f.val.text, .slice la ln lc, .slice fa fn fc, .slice sa sn sc] ∧
      w.cell? ⟨g, off + i * 8, none⟩ = some (.int .i64 f.op) ∧ w.cell? ⟨g, off + i * 8 + 1, none⟩ = some (.string f.path) ∧ w.cell? ⟨g, off + i * 8 + 2, none⟩ = some (.int .i64 f.val.kind) ∧ w.cell? ⟨g, off + i * 8 + 3, none⟩ = some (.int .i64 f.val.int) ∧
      w.cell? ⟨g, off + i * 8 + 4, none⟩ = some (.string f.val.text) ∧ w.cell? ⟨g, off + i * 8 + 5, none⟩ = some (.slice la ln lc) ∧ w.cell? ⟨g, off + i * 8 + 6, none⟩ = some (.slice fa fn fc) ∧ w.cell? ⟨g, off + i * 8 + 7, none⟩ = some (.slice sa sn sc) := by
  obtain ⟨g, off, f, cs, hA, hx, hr, hc⟩ := h.elem hi
  rw [KF_sz] at hc
  cases d with
  | zero => exact hr.elim
  | succ d =>
    have hr0 := hr
    obtain ⟨vs, sa, sn, sc, rfl, _, _, h3, _⟩ := hr
    obtain ⟨la, ln, lc, fa, fn, fc, rfl⟩ := KV_shape h3
    exact ⟨g, off, f, la, ln, lc, fa, fn, fc, sa, sn, sc, hA, hx, hr0, hc 0 _ rfl, hc 1 _ rfl, hc 2 _ rfl, hc 3 _ rfl, hc 4 _ rfl, hc 5 _ rfl, hc 6 _ rfl, hc 7 _ rfl⟩
end
theorem take_any {α : Type} {xs : List α} {k : Nat} {x : α} (p : α → Bool) (hx : xs[k]? = some x) : (xs.take (k + 1)).any p = ((xs.take k).any p || p x) := by
  have hk : k < xs.length := (List.getElem?_eq_some_iff.1 hx).1
  rw [List.getElem?_eq_getElem hk] at hx
  injection hx with hx
  rw [List.take_succ_eq_append_getElem hk, List.any_append, hx]
  simp
theorem any_of_take {α : Type} {xs : List α} {k : Nat} {x : α} (p : α → Bool) (hx : xs[k]? = some x) (h : p x = true) : xs.any p = true := List.any_eq_true.2 ⟨x, List.mem_of_getElem? hx, h⟩
end Go.Proofs.YtlomieopppndeaaDoor
