/- The conditions of filters of bytes: their values are good, their keys are short: plain. -/
import Derived.Test.YtlomieopppndeaaDoorPlanLaw
import Derived.Test.YtlomieopppndeaaDoorDocLaw
namespace Go.Proofs.YtlomieopppndeaaDoor
open Go.RowKit

theorem GoodV_up : ∀ (d : Nat) (x : Val), GoodV d x → GoodV (d + 1) x
  | 0, _ => fun h => h.elim
  | d + 1, x => by
    rintro ⟨a, b, c, e, f, g, h, i, r⟩
    exact ⟨a, b, c, e, f, fun y hy => GoodV_up d y (g y hy), h, fun p hp => GoodV_up d p.2 (i p hp), r⟩
theorem KeyOk_up : ∀ (d : Nat) (x : Val), KeyOk d x → KeyOk (d + 1) x
  | 0, _ => fun h => h.elim
  | d + 1, x => by
    rintro ⟨a, b, c, e, g, i⟩
    exact ⟨a, b, c, e, fun y hy => KeyOk_up d y (g y hy), fun p hp => KeyOk_up d p.2 (i p hp)⟩
theorem KeyOk_le {d d' : Nat} (h : d ≤ d') {x : Val} (hx : KeyOk d x) : KeyOk d' x := by
  obtain ⟨k, rfl⟩ : ∃ k, d' = d + k := ⟨d' - d, by omega⟩
  clear h
  induction k with
  | zero => exact hx
  | succ k ih => exact KeyOk_up _ x ih
theorem written_len (l : List UInt8) : (writtenL l).length ≤ 2 * l.length + 2 := by
  unfold writtenL
  rw [List.length_append]
  have : ∀ l : List UInt8, (l.flatMap escB).length ≤ 2 * l.length := by
    intro l
    induction l with
    | nil => simp
    | cons a r ih =>
      rw [List.flatMap_cons, List.length_append, List.length_cons]
      have : (escB a).length ≤ 2 := by unfold escB; split <;> simp
      omega
  have h2 := this l
  have h3 : ([0, 1] : List UInt8).length = 2 := rfl
  omega
theorem beL_len : ∀ (k n : Nat), (beL k n).length = k
  | 0, _ => rfl
  | k + 1, n => by rw [beL, List.length_append, beL_len k]; rfl
theorem flatU_len {α : Type} (f : α → List UInt8) (C : Nat) : ∀ l : List α, (∀ x ∈ l, (f x).length ≤ C) → (l.flatMap f).length ≤ l.length * C
  | [], _ => by simp
  | a :: r, h => by
    rw [List.flatMap_cons, List.length_append, List.length_cons, Nat.succ_mul]
    have h1 := h a (List.mem_cons_self ..)
    have h2 := flatU_len f C r (fun x hx => h x (List.mem_cons_of_mem _ hx))
    omega
def keyC : Nat → Nat
  | 0 => 0
  | d + 1 => 4 * keyC d + 200
theorem key_len : ∀ (d : Nat) (x : Val), GoodV d x → ∀ e, (keyL e x).length ≤ keyC d
  | 0, _, h, _ => h.elim
  | d + 1, x, h, e => by
    cases e with
    | zero => exact Nat.zero_le _
    | succ e =>
      have hl := h.2.2.2.2.1
      have hf : x.fields.length ≤ 4 := by
        have := h.2.2.2.2.2.2.1.length_le
        rw [List.length_map] at this
        exact this
      have ht := words_small h.2.2.2.1
      have a1 := flatU_len (keyL e) (keyC d) x.list (fun y hy => key_len d y (h.2.2.2.2.2.1 y hy) e)
      have a2 := flatU_len (fun f : Fld => 1 :: (writtenL f.1.data.toList ++ keyL e f.2)) (keyC d + 40) x.fields (fun f hm => by
        have hn := names_small (h.2.2.2.2.2.2.1.subset (List.mem_map_of_mem (f := Prod.fst) hm))
        have h1 := written_len f.1.data.toList
        have h2 := key_len d f.2 (h.2.2.2.2.2.2.2.1 f hm) e
        have h3 : f.1.data.toList.length = f.1.size := by simp
        rw [List.length_cons, List.length_append]
        omega)
      have a3 := written_len x.text.data.toList
      have h3 : x.text.data.toList.length = x.text.size := by simp
      have b1 : x.list.length * keyC d ≤ 3 * keyC d := Nat.mul_le_mul_right _ hl
      have b2 : x.fields.length * (keyC d + 40) ≤ 4 * (keyC d + 40) := Nat.mul_le_mul_right _ hf
      have b4 := beL_len 8 (x.int + 9223372036854775808).toNat
      show (keyL (e + 1) x).length ≤ 4 * keyC d + 200
      rw [keyL, List.length_cons]
      split
      · rw [List.length_singleton]; omega
      · split
        · unfold numL; omega
        · split
          · omega
          · split
            · rw [List.length_append, List.length_singleton]; omega
            · split
              · rw [List.length_append, List.length_singleton]; omega
              · rw [List.length_nil]; omega
theorem good_zero : GoodV 5 Val.zero := by simp [GoodV, Val.zero, Val.kind, Val.int, Val.text, Val.list, Val.fields, inI64, wordsOf]

theorem conds_mk {P : Flt → Prop} {op : Int} {p : ByteArray} {v : Val} {ss : List Flt} (h : op ≠ 0 → P (.mk op p v ss)) (hs : ∀ s ∈ ss, ∀ D c, c ∈ condsD D s → P c) : ∀ D c, c ∈ condsD D (.mk op p v ss) → P c
  | 0, c, hc => by cases hc
  | D + 1, c, hc => by
    unfold condsD at hc
    by_cases h0 : (Flt.mk op p v ss).op = 0
    · rw [if_pos h0] at hc
      obtain ⟨s, hm, hc⟩ := List.mem_flatMap.1 hc
      exact hs s hm D c hc
    · rw [if_neg h0] at hc
      obtain rfl := List.mem_singleton.1 hc
      exact h h0
theorem manyE_conds {P : Flt → Prop} {α : Type} {op : Int} {one : α → Except Int Flt} {l : List α} {f : Flt} (h0 : op ≠ 0 → ∀ ss, P (.mk op ⟨#[]⟩ Val.zero ss)) (hp : ∀ x ∈ l, ∀ s, one x = .ok s → ∀ D c, c ∈ condsD D s → P c) (h : manyE op one l = .ok f) : ∀ D c, c ∈ condsD D f → P c := by
  unfold manyE at h
  cases hm : mapE one l with
  | error e => rw [hm] at h; cases h
  | ok ss =>
    rw [hm] at h
    injection h with h
    subst h
    exact conds_mk (fun h => h0 h ss) (mapE_all (fun s => ∀ D c, c ∈ condsD D s → P c) hp hm)
/-- A condition of a filter of bytes. -/
def CondV (c : Flt) : Prop := GoodV 5 c.val ∧ 1 ≤ c.op ∧ c.op ≤ 9 ∧ (c.op = 1 → c.path = ⟨#[]⟩)
theorem doc_conds : ∀ (d F : Nat) (v : Val) (f : Flt), DocV d v → parseD F v = .ok f → ∀ D c, c ∈ condsD D f → CondV c
  | 0, _, _, _, h, _ => h.elim
  | d + 1, F, v, f, hv, h => by
    obtain ⟨h5, _, _, hf⟩ := hv
    unfold parseD parseE at h
    rw [if_neg (by simp [h5])] at h
    refine manyE_conds (fun h => (h rfl).elim) (fun fl hm s hs => ?_) h
    cases F with
    | zero => cases hs
    | succ F =>
      obtain ⟨nm, y⟩ := fl
      unfold fieldD at hs
      have nb := namedI_bounds nm
      by_cases h1 : namedI nm = 0 ∨ namedI nm = 1
      · rw [if_pos h1] at hs
        by_cases h2 : y.kind ≠ 4 ∨ y.list = []
        · rw [if_pos h2] at hs; cases hs
        · rw [if_neg h2] at hs
          refine manyE_conds (fun h0 ss => ⟨good_zero, (by show 1 ≤ namedI nm; have h1' : namedI nm = 0 ∨ namedI nm = 1 := h1; have h0' : namedI nm ≠ 0 := h0; omega), (by show namedI nm ≤ 9; omega), fun _ => rfl⟩) (fun x hx t ht => ?_) hs
          rcases hf _ hm with ⟨hn, _⟩ | ⟨_, _, _, _, _, h6⟩
          · exact ((docn_leaf hn).1 h1).elim
          · exact doc_conds d F x t (h6 x hx) ht
      · rw [if_neg h1] at hs
        by_cases h2 : pre36 nm = true
        · rw [if_pos h2] at hs; cases hs
        · rw [if_neg h2] at hs
          by_cases h3 : pathOk nm = false
          · rw [if_pos h3] at hs; cases hs
          · rw [if_neg h3] at hs
            rcases hf _ hm with ⟨_, hl⟩ | ⟨hn, _⟩
            · by_cases h4 : isTests y = true
              · rw [if_pos h4] at hs
                refine manyE_conds (fun h => (h rfl).elim) (fun t ht u hu => ?_) hs
                unfold testF at hu
                have tb := namedI_bounds t.1
                split at hu
                · cases hu
                · rename_i ht2
                  split at hu
                  · cases hu
                  · injection hu with hu
                    subst hu
                    refine conds_mk (fun _ => ⟨?_, by show 1 ≤ namedI t.1; omega, tb.2, fun e => by have e' : namedI t.1 = 1 := e; omega⟩) (fun s hs => by cases hs)
                    rcases hl with hg | ⟨_, _, _, _, ha⟩
                    · exact GoodV_up 4 _ (GoodV_up 3 _ (hg.2.2.2.2.2.2.2.1 t ht))
                    · exact (ha t ht).2
              · rw [if_neg h4] at hs
                injection hs with hs
                subst hs
                refine conds_mk (fun _ => ⟨?_, (by show (1 : Int) ≤ 2; decide), (by show (2 : Int) ≤ 9; decide), fun e => by cases e⟩) (fun s hs => by cases hs)
                exact GoodV_up 4 _ (leaf_tests hl (by show isTests y = false; simpa using h4))
            · exact (h1 (docn_join hn)).elim
end Go.Proofs.YtlomieopppndeaaDoor
