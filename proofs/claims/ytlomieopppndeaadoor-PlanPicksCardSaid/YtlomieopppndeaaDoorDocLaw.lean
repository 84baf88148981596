/- Filters as the statements make them out of bytes; what two filters together are: plain. -/
import Derived.Test.YtlomieopppndeaaDoorParseWalk
import Derived.Test.YtlomieopppndeaaDoorFltLaw
import Derived.Test.YtlomieopppndeaaDoorDocNames
import Derived.Test.YtlomieopppndeaaDoorGen2
namespace Go.Proofs.YtlomieopppndeaaDoor
open Go.RowKit

theorem NOk_up : ∀ (d : Nat) (x : Val), NOk d x → NOk (d + 1) x
  | 0, _, h => h.elim
  | d + 1, _, h => ⟨h.1, h.2.1, fun y hy => NOk_up d y (h.2.2.1 y hy), fun f hf => ⟨(h.2.2.2 f hf).1, NOk_up d f.2 (h.2.2.2 f hf).2⟩⟩
theorem NOk_le {d d' : Nat} (h : d ≤ d') {x : Val} (hx : NOk d x) : NOk d' x := by
  obtain ⟨k, rfl⟩ : ∃ k, d' = d + k := ⟨d' - d, by omega⟩
  clear h
  induction k with
  | zero => exact hx
  | succ k ih => exact NOk_up _ x ih
theorem nok_good : ∀ (d : Nat) (x : Val), GoodV d x → NOk d x
  | 0, _, h => h.elim
  | d + 1, x, h => ⟨by have := h.2.2.2.2.1; omega, by have := h.2.2.2.2.2.2.1.length_le; rw [List.length_map] at this; have h4 : namesOf.length = 4 := rfl; omega, fun y hy => nok_good d y (h.2.2.2.2.2.1 y hy), fun f hf =>
      ⟨.inr (by
        have := names_small (h.2.2.2.2.2.2.1.subset (List.mem_map_of_mem (f := Prod.fst) hf))
        omega), nok_good d f.2 (h.2.2.2.2.2.2.2.1 f hf)⟩⟩
theorem docn_small {s : ByteArray} (h : s ∈ docNames) : s.size ≤ 16 := by
  simp only [docNames, List.mem_cons, List.not_mem_nil, or_false] at h
  rcases h with rfl | rfl | rfl | rfl | rfl | rfl | rfl <;> decide
theorem tstn_small {s : ByteArray} (h : s ∈ testsOf) : s.size ≤ 16 := by
  simp only [testsOf, List.mem_cons, List.not_mem_nil, or_false] at h
  rcases h with rfl | rfl | rfl | rfl | rfl | rfl | rfl | rfl <;> decide
theorem docn_leaf {s : ByteArray} (h : s ∈ docNames.drop 2) : ¬ (namedI s = 0 ∨ namedI s = 1) ∧ pre36 s = false ∧ pathOk s = true := by
  simp only [docNames, List.drop, List.mem_cons, List.not_mem_nil, or_false] at h
  rcases h with rfl | rfl | rfl | rfl | rfl <;> exact ⟨by decide +kernel, by decide +kernel, by decide +kernel⟩
theorem docn_join {s : ByteArray} (h : s ∈ docNames.take 2) : namedI s = 0 ∨ namedI s = 1 := by
  simp only [docNames, List.take, List.mem_cons, List.not_mem_nil, or_false] at h
  rcases h with rfl | rfl <;> decide +kernel
theorem tstn_op {s : ByteArray} (h : s ∈ testsOf) : 2 ≤ namedI s ∧ pre36 s = true := by
  simp only [testsOf, List.mem_cons, List.not_mem_nil, or_false] at h
  rcases h with rfl | rfl | rfl | rfl | rfl | rfl | rfl | rfl <;> exact ⟨by decide +kernel, by decide +kernel⟩
theorem leaf_tests {x : Val} (h : LeafV x) (ht : isTests x = false) : GoodV 4 x := by
  rcases h with h | ⟨k5, _, n1, _, ha⟩
  · exact h
  · exfalso
    cases hfs : x.fields with
    | nil => rw [hfs] at n1; simp at n1
    | cons t r =>
      have hp := (tstn_op (ha t (by rw [hfs]; exact List.mem_cons_self ..)).1).2
      unfold isTests at ht
      rw [hfs, k5] at ht
      simp [hp] at ht
theorem nok_leaf {x : Val} (h : LeafV x) : NOk 6 x := by
  rcases h with h | ⟨_, hl, _, hn, ht⟩
  · exact NOk_le (by decide) (nok_good 4 x h)
  · exact ⟨by rw [hl]; exact Nat.zero_le _, by omega, (fun y hy => by rw [hl] at hy; cases hy), fun f hf => ⟨.inr (by have := tstn_small (ht f hf).1; omega), nok_good 5 f.2 (ht f hf).2⟩⟩
theorem nok_doc : ∀ (d : Nat) (x : Val), DocV d x → NOk (2 * d + 5) x
  | 0, _, h => h.elim
  | d + 1, x, h => by
    obtain ⟨_, hl, hn, hf⟩ := h
    show NOk ((2 * d + 6) + 1) x
    refine ⟨by rw [hl]; exact Nat.zero_le _, by omega, (fun y hy => by rw [hl] at hy; cases hy), fun f hm => ?_⟩
    rcases hf f hm with ⟨h1, h2⟩ | ⟨h1, h2, h3, h4, h5, h6⟩
    · exact ⟨.inr (by have := docn_small (List.mem_of_mem_drop h1); omega), NOk_le (by omega) (nok_leaf h2)⟩
    · refine ⟨.inr (by have := docn_small (List.mem_of_mem_take h1); omega), ?_⟩
      show NOk ((2 * d + 5) + 1) f.2
      exact ⟨by omega, by rw [h3]; exact Nat.zero_le _, fun y hy => nok_doc d y (h6 y hy), (fun g hg => by rw [h3] at hg; cases hg)⟩

theorem FOk_up : ∀ (d : Nat) (f : Flt), FOk d f → FOk (d + 1) f
  | 0, _, h => h.elim
  | d + 1, _, h => ⟨h.1, fun s hs => FOk_up d s (h.2 s hs)⟩
theorem FOk_le {d d' : Nat} (h : d ≤ d') {x : Flt} (hx : FOk d x) : FOk d' x := by
  obtain ⟨k, rfl⟩ : ∃ k, d' = d + k := ⟨d' - d, by omega⟩
  clear h
  induction k with
  | zero => exact hx
  | succ k ih => exact FOk_up _ x ih
theorem mapE_all {α : Type} {one : α → Except Int Flt} (P : Flt → Prop) : ∀ {l : List α} {ss : List Flt}, (∀ x ∈ l, ∀ s, one x = .ok s → P s) → mapE one l = .ok ss → ∀ s ∈ ss, P s
  | [], ss, _, h, s, hs => by
    injection h with h
    subst h
    cases hs
  | a :: r, ss, hp, h, s, hs => by
    simp only [mapE] at h
    cases ha : one a with
    | error e => rw [ha] at h; cases h
    | ok t =>
      rw [ha] at h
      cases hr : mapE one r with
      | error e => rw [hr] at h; cases h
      | ok tt =>
        rw [hr] at h
        injection h with h
        subst h
        rcases List.mem_cons.1 hs with rfl | hs
        · exact hp a (List.mem_cons_self ..) s ha
        · exact mapE_all P (fun x hx => hp x (List.mem_cons_of_mem _ hx)) hr s hs
theorem manyE_fok {α : Type} {op : Int} {one : α → Except Int Flt} {l : List α} {f : Flt} {d : Nat} (hp : ∀ x ∈ l, ∀ s, one x = .ok s → FOk d s) (h : manyE op one l = .ok f) : FOk (d + 1) f := by
  unfold manyE at h
  cases hm : mapE one l with
  | error e => rw [hm] at h; cases h
  | ok ss =>
    rw [hm] at h
    injection h with h
    subst h
    exact ⟨(by decide : (0 : Nat) < 4294967281), mapE_all (FOk d) hp hm⟩
theorem parse_fok : ∀ (D : Nat), (∀ (F : Nat) (v : Val) (f : Flt), NOk D v → parseD F v = .ok f → FOk (D + 2) f) ∧ ∀ (F : Nat) (nm : ByteArray) (y : Val) (s : Flt), NOk D y → (pre36 nm = true ∨ nm.size < 4294967281) → fieldD F (nm, y) = .ok s → FOk (D + 2) s
  | 0 => ⟨fun _ _ _ h => h.elim, fun _ _ _ _ h => h.elim⟩
  | D + 1 => by
    obtain ⟨ihP, ihF⟩ := parse_fok D
    refine ⟨fun F v f hv h => ?_, fun F nm y s hy hn h => ?_⟩
    · unfold parseD parseE at h
      by_cases h5 : v.kind ≠ 5
      · rw [if_pos h5] at h; cases h
      · rw [if_neg h5] at h
        exact manyE_fok (fun x hx t ht => ihF F x.1 x.2 t (hv.2.2.2 x hx).2 (hv.2.2.2 x hx).1 ht) h
    · cases F with
      | zero => cases h
      | succ F =>
        unfold fieldD at h
        by_cases h1 : namedI nm = 0 ∨ namedI nm = 1
        · rw [if_pos h1] at h
          by_cases h2 : y.kind ≠ 4 ∨ y.list = []
          · rw [if_pos h2] at h; cases h
          · rw [if_neg h2] at h
            exact manyE_fok (fun x hx t ht => ihP F x t (hy.2.2.1 x hx) ht) h
        · rw [if_neg h1] at h
          by_cases h2 : pre36 nm = true
          · rw [if_pos h2] at h; cases h
          · rw [if_neg h2] at h
            have hs : nm.size < 4294967281 := hn.elim (fun h => (h2 h).elim) id
            by_cases h3 : pathOk nm = false
            · rw [if_pos h3] at h; cases h
            · rw [if_neg h3] at h
              by_cases h4 : isTests y = true
              · rw [if_pos h4] at h
                refine FOk_le (by omega : 2 ≤ D + 1 + 2) (manyE_fok (d := 1) (fun x _ t ht => ?_) h)
                unfold testF at ht
                split at ht
                · cases ht
                · split at ht
                  · cases ht
                  · injection ht with ht
                    subst ht
                    exact ⟨hs, (fun s hs => by cases hs)⟩
              · rw [if_neg h4] at h
                injection h with h
                subst h
                exact FOk_le (by omega : 1 ≤ D + 1 + 2) ⟨hs, (fun s hs => by cases hs)⟩

/-- Two filters together: as a value, as a filter. -/
def joinV (nm : ByteArray) (v w : Val) : Val := .mk 5 0 ⟨#[]⟩ [] [(nm, .mk 4 0 ⟨#[]⟩ [v, w] [])]
def joinF (op : Int) (f g : Flt) : Flt := .mk 0 ⟨#[]⟩ Val.zero [.mk op ⟨#[]⟩ Val.zero [f, g]]
theorem join_parse {F : Nat} {v w : Val} {f g : Flt} {nm : ByteArray} (hn : namedI nm = 0 ∨ namedI nm = 1) (hv : parseD F v = .ok f) (hw : parseD F w = .ok g) : parseD (F + 1) (joinV nm v w) = .ok (joinF (namedI nm) f g) := by
  have h1 : manyE (namedI nm) (parseE (fieldD F)) [v, w] = .ok (.mk (namedI nm) ⟨#[]⟩ Val.zero [f, g]) := by
    unfold parseD at hv hw
    simp [manyE, mapE, hv, hw]
  have h2 : fieldD (F + 1) (nm, .mk 4 0 ⟨#[]⟩ [v, w] []) = .ok (.mk (namedI nm) ⟨#[]⟩ Val.zero [f, g]) := by
    unfold fieldD
    rw [if_pos hn, if_neg (by simp [Val.kind, Val.list])]
    exact h1
  show parseE (fieldD (F + 1)) _ = _
  simp [joinV, joinF, parseE, Val.kind, Val.fields, manyE, mapE, h2]
theorem join_and (dv d : Nat) (f g : Flt) (x : Val) : matchD dv (d + 2) (joinF 0 f g) x = (matchD dv d f x && matchD dv d g x) := by
  simp [joinF, matchD, Flt.op, Flt.subs]
theorem join_or (dv d : Nat) (f g : Flt) (x : Val) : matchD dv (d + 2) (joinF 1 f g) x = (matchD dv d f x || matchD dv d g x) := by
  simp [joinF, matchD, Flt.op, Flt.subs]
theorem join_fok {d : Nat} {op : Int} {f g : Flt} (hf : FOk d f) (hg : FOk d g) : FOk (d + 2) (joinF op f g) := by
  refine ⟨(by decide : (0 : Nat) < 4294967281), fun s hs => ?_⟩
  obtain rfl := List.mem_singleton.1 hs
  refine ⟨(by decide : (0 : Nat) < 4294967281), fun s hs => ?_⟩
  rcases List.mem_cons.1 hs with rfl | hs
  · exact hf
  · obtain rfl := List.mem_singleton.1 hs
    exact hg
theorem join_nok {D : Nat} {nm : ByteArray} {v w : Val} (hn : nm.size ≤ 16) (hv : NOk D v) (hw : NOk D w) : NOk (D + 2) (joinV nm v w) := by
  refine ⟨Nat.zero_le _, (by show 1 ≤ 1000000; decide), (fun y hy => by cases hy), fun f hf => ?_⟩
  obtain rfl := List.mem_singleton.1 hf
  refine ⟨.inr (by show nm.size < _; omega), (by show 2 ≤ 1000000; decide), Nat.zero_le _, fun y hy => ?_, (fun g hg => by cases hg)⟩
  rcases List.mem_cons.1 hy with rfl | hy
  · exact hv
  · obtain rfl := List.mem_singleton.1 hy
    exact hw
end Go.Proofs.YtlomieopppndeaaDoor
