/- What is within the range of keys of a filter: plain. -/
import Derived.Test.YtlomieopppndeaaDoorPlanLaw
import Derived.Test.YtlomieopppndeaaDoorFltLaw
namespace Go.Proofs.YtlomieopppndeaaDoor
open Go.RowKit

theorem cmp_lt : ∀ a b : List UInt8, Lib.compareBytes a b = -1 ↔ a < b
  | [], [] => by simp [Lib.compareBytes]
  | [], _ :: _ => by simp [Lib.compareBytes]
  | _ :: _, [] => by simp [Lib.compareBytes]
  | x :: a, y :: b => by
    rw [Lib.compareBytes, List.cons_lt_cons_iff]
    by_cases h : x < y
    · simp [h]
    · rw [if_neg h]
      by_cases k : y < x
      · rw [if_pos k]
        constructor
        · intro e; cases e
        · rintro (e | ⟨rfl, e⟩)
          · exact (h e).elim
          · exact (h k).elim
      · rw [if_neg k, cmp_lt a b]
        have e : x = y := UInt8.toNat_inj.1 (by rw [UInt8.lt_iff_toNat_lt] at h k; omega)
        simp [e]
theorem cmp_zero : ∀ a b : List UInt8, Lib.compareBytes a b = 0 → a = b
  | [], [], _ => rfl
  | [], _ :: _, h => by simp [Lib.compareBytes] at h
  | _ :: _, [], h => by simp [Lib.compareBytes] at h
  | x :: a, y :: b, h => by
    rw [Lib.compareBytes] at h
    by_cases h1 : x < y
    · rw [if_pos h1] at h; cases h
    · rw [if_neg h1] at h
      by_cases k : y < x
      · rw [if_pos k] at h; cases h
      · rw [if_neg k] at h
        have e : x = y := UInt8.toNat_inj.1 (by rw [UInt8.lt_iff_toNat_lt] at h1 k; omega)
        rw [e, cmp_zero a b h]
theorem cmpI_is (a b : Int) : cmpI a b = -1 ∨ cmpI a b = 0 ∨ cmpI a b = 1 := by unfold cmpI; split <;> (try split) <;> simp
theorem compareBytes_is : ∀ a b : List UInt8, Lib.compareBytes a b = -1 ∨ Lib.compareBytes a b = 0 ∨ Lib.compareBytes a b = 1
  | [], [] => .inr (.inl rfl)
  | [], _ :: _ => .inl rfl
  | _ :: _, [] => .inr (.inr rfl)
  | x :: a, y :: b => by
    rw [Lib.compareBytes]
    split
    · exact .inl rfl
    · split
      · exact .inr (.inr rfl)
      · exact compareBytes_is a b
def inB (k : ByteArray) (fr tl : ByteArray) : Bool := !decide (ltA k fr) && (decide (tl = ⟨#[]⟩) || decide (ltA k tl))
theorem inB_both (k : ByteArray) (s t : Bnd) : inB k (bothB s t).1 (bothB s t).2.1 = (inB k s.1 s.2.1 && inB k t.1 t.2.1) := by
  have h1 : decide (ltA k (maxA s.1 t.1)) = (decide (ltA k s.1) || decide (ltA k t.1)) := by
    unfold maxA pickR
    by_cases h : ltA s.1 t.1
    · rw [if_pos h]
      by_cases h2 : ltA k t.1
      · simp [h2]
      · have : ¬ ltA k s.1 := fun e => h2 (ltA_trans e h)
        simp [h2, this]
    · rw [if_neg h]
      by_cases h2 : ltA k s.1
      · simp [h2]
      · have : ¬ ltA k t.1 := nlt_trans h2 h
        simp [h2, this]
  have h2 : (decide (toA s.2.1 t.2.1 = ⟨#[]⟩) || decide (ltA k (toA s.2.1 t.2.1))) = ((decide (s.2.1 = ⟨#[]⟩) || decide (ltA k s.2.1)) && (decide (t.2.1 = ⟨#[]⟩) || decide (ltA k t.2.1))) := by
    unfold toA pickR
    by_cases h : ltT t.2.1 s.2.1
    · rw [if_pos h]
      by_cases h3 : ltA k t.2.1
      · have : s.2.1 = ⟨#[]⟩ ∨ ltA k s.2.1 := h.2.elim .inl (fun e => .inr (ltA_trans h3 e))
        rcases this with e | e <;> simp [h3, e]
      · simp [h3, h.1]
    · rw [if_neg h]
      by_cases h4 : t.2.1 = ⟨#[]⟩
      · simp [h4]
      · have hs : s.2.1 ≠ ⟨#[]⟩ := fun e => h ⟨h4, .inl e⟩
        have hl : ¬ ltA t.2.1 s.2.1 := fun e => h ⟨h4, .inr e⟩
        by_cases h5 : ltA k s.2.1
        · have : ltA k t.2.1 := by
            rcases ltA_tri s.2.1 t.2.1 with e | e | e
            · exact ltA_trans h5 e
            · rw [← e]; exact h5
            · exact (hl e).elim
          simp [h5, this]
        · simp [h5, hs]
  unfold inB
  show (!decide (ltA k (maxA s.1 t.1)) && (decide (toA s.2.1 t.2.1 = ⟨#[]⟩) || decide (ltA k (toA s.2.1 t.2.1)))) = _
  rw [h1, h2]
  cases decide (ltA k s.1) <;> cases decide (ltA k t.1) <;> simp
theorem inB_bnd0 (k : ByteArray) : inB k bnd0.1 bnd0.2.1 = true := by
  unfold inB bnd0
  simp [nlt_empty]

section
variable {dv : Nat} {x v : Val}
theorem key_cmp (hx : KeyOk dv x) (hv : KeyOk dv v) (s : List UInt8) : Lib.compareBytes (keyL dv x) (keyL dv v ++ s) = if cmpD dv x v = 0 then Lib.compareBytes [] s else cmpD dv x v := by
  have h := key_ord dv x v hx hv [] s
  rwa [List.append_nil] at h
theorem cmpD_is (hx : KeyOk dv x) (hv : KeyOk dv v) : cmpD dv x v = -1 ∨ cmpD dv x v = 0 ∨ cmpD dv x v = 1 := by
  by_cases h : cmpD dv x v = 0
  · exact .inr (.inl h)
  · have := key_cmp hx hv []
    rw [if_neg h] at this
    rw [← this]
    exact compareBytes_is _ _
theorem keyB_list (v : Val) : (keyB dv v).data.toList = keyL dv v := rfl
theorem endB_list (v : Val) : (endB (keyB dv v)).data.toList = keyL dv v ++ [0] := by
  unfold endB
  rw [ByteArray.data_append]
  simp [keyB]
theorem lt_key (hx : KeyOk dv x) (hv : KeyOk dv v) : ltA (keyB dv x) (keyB dv v) ↔ cmpD dv x v = -1 := by
  have h := key_cmp hx hv []
  rw [List.append_nil] at h
  unfold ltA
  rw [keyB_list, keyB_list, ← cmp_lt, h]
  rcases cmpD_is hx hv with e | e | e <;> simp [e, Lib.compareBytes]
theorem lt_end (hx : KeyOk dv x) (hv : KeyOk dv v) : ltA (keyB dv x) (endB (keyB dv v)) ↔ cmpD dv x v = -1 ∨ cmpD dv x v = 0 := by
  have h := key_cmp hx hv [0]
  unfold ltA
  rw [keyB_list, endB_list, ← cmp_lt, h]
  rcases cmpD_is hx hv with e | e | e <;> simp [e, Lib.compareBytes]
theorem key_ne (hv : KeyOk dv v) : keyB dv v ≠ ⟨#[]⟩ := by
  obtain ⟨k, r, e, _⟩ := key_head hv
  intro h
  have := keyB_list (dv := dv) v
  rw [h, e] at this
  cases this
theorem end_ne (_hv : KeyOk dv v) : endB (keyB dv v) ≠ ⟨#[]⟩ := by
  intro h
  have := endB_list (dv := dv) v
  rw [h] at this
  have := congrArg List.length this
  simp at this
/-- One condition: its keys are those of values that meet it. -/
theorem bound_in (op : Int) (p : ByteArray) (ss : List Flt) (hx : KeyOk dv x) (hv : KeyOk dv v) (b : Bool) (hop : op = 2 ∨ op = 4 ∨ op = 5 ∨ op = 6 ∨ op = 7) :
    inB (keyB dv x) (boundF dv (.mk op p v ss)).1 (boundF dv (.mk op p v ss)).2.1 = oneK op (cmpD dv x v) b := by
  have h1 := lt_key hx hv
  have h2 := lt_end hx hv
  have n1 := key_ne hv
  have n2 := end_ne hv
  rcases hop with rfl | rfl | rfl | rfl | rfl <;> rcases cmpD_is hx hv with e | e | e <;> simp [inB, boundF, Flt.op, Flt.val, oneK, h1, h2, n1, n2, e, nlt_empty]
end

theorem conds_match (dv : Nat) (doc : Val) : ∀ (D : Nat) (f : Flt), matchD dv D f doc = true → ∀ c ∈ condsD D f, 2 ≤ c.op → condD dv c doc = true
  | 0, _, h, _, _, _ => by cases h
  | D + 1, f, h, c, hc, h2 => by
    unfold condsD at hc
    by_cases h0 : f.op = 0
    · rw [if_pos h0] at hc
      rw [matchD, if_pos h0] at h
      obtain ⟨s, hs, hc⟩ := List.mem_flatMap.1 hc
      exact conds_match dv doc D s (List.all_eq_true.1 h s hs) c hc h2
    · rw [if_neg h0] at hc
      obtain rfl := List.mem_singleton.1 hc
      rwa [matchD, if_neg h0, if_neg (by omega)] at h
theorem foldB_cons (dv : Nat) (p : ByteArray) (c : Flt) (l : List Flt) : foldB dv p (c :: l) = bothB (oneB dv p c) (foldB dv p l) := by
  have := foldB_append dv p [c] l
  rw [List.singleton_append] at this
  rw [this]
  unfold foldB
  rw [List.foldl_cons, List.foldl_nil, bothB_e]
theorem fold_any (dv : Nat) (p : ByteArray) : ∀ l : List Flt, ((foldB dv p l).2.2.1 = true → (foldB dv p l).2.2.2 = true) ∧ ((foldB dv p l).2.2.2 = false → (foldB dv p l).1 = ⟨#[]⟩ ∧ (foldB dv p l).2.1 = ⟨#[]⟩)
  | [] => ⟨(fun h => by cases h), fun _ => ⟨rfl, rfl⟩⟩
  | c :: l => by
    obtain ⟨h1, h2⟩ := fold_any dv p l
    have h3 : ((oneB dv p c).2.2.1 = true → (oneB dv p c).2.2.2 = true) ∧ ((oneB dv p c).2.2.2 = false → (oneB dv p c).1 = ⟨#[]⟩ ∧ (oneB dv p c).2.1 = ⟨#[]⟩) := by
      unfold oneB
      split
      · unfold boundF
        by_cases e2 : c.op = 2
        · simp [e2]
        · by_cases e4 : c.op = 4
          · simp [e4]
          · by_cases e5 : c.op = 5
            · simp [e5]
            · by_cases e6 : c.op = 6
              · simp [e6]
              · by_cases e7 : c.op = 7
                · simp [e7]
                · simp [e2, e4, e5, e6, e7]
      · exact ⟨(fun h => by cases h), fun _ => ⟨rfl, rfl⟩⟩
    rw [foldB_cons]
    constructor
    · intro h
      show ((oneB dv p c).2.2.2 || (foldB dv p l).2.2.2) = true
      rcases Bool.or_eq_true_iff.1 (show ((oneB dv p c).2.2.1 || (foldB dv p l).2.2.1) = true from h) with e | e
      · rw [h3.1 e]; rfl
      · rw [h1 e, Bool.or_true]
    · intro h
      obtain ⟨a, b⟩ := Bool.or_eq_false_iff.1 (show ((oneB dv p c).2.2.2 || (foldB dv p l).2.2.2) = false from h)
      obtain ⟨a1, a2⟩ := h3.2 a
      obtain ⟨b1, b2⟩ := h2 b
      exact ⟨by show maxA (oneB dv p c).1 (foldB dv p l).1 = _; rw [a1, b1, maxA_e], by show toA (oneB dv p c).2.1 (foldB dv p l).2.1 = _; rw [a2, b2, toA_e]⟩
theorem fold_sound (dv : Nat) (p : ByteArray) (doc : Val) (hd : ∀ x, foundV doc p = some x → KeyOk dv x) : ∀ l : List Flt, (∀ c ∈ l, KeyOk dv c.val) → (∀ c ∈ l, 2 ≤ c.op → condD dv c doc = true) →
    ((foldB dv p l).2.2.2 = true → (foundV doc p).isSome = true) ∧ ∀ x, foundV doc p = some x → inB (keyB dv x) (foldB dv p l).1 (foldB dv p l).2.1 = true
  | [], _, _ => ⟨(fun h => by cases h), fun x _ => inB_bnd0 _⟩
  | c :: l, hk, hc => by
    obtain ⟨h1, h2⟩ := fold_sound dv p doc hd l (fun c h => hk c (List.mem_cons_of_mem _ h)) (fun c h => hc c (List.mem_cons_of_mem _ h))
    have h3 : ((oneB dv p c).2.2.2 = true → (foundV doc p).isSome = true) ∧ ∀ x, foundV doc p = some x → inB (keyB dv x) (oneB dv p c).1 (oneB dv p c).2.1 = true := by
      unfold oneB
      split
      · rename_i h
        have hm := hc c (List.mem_cons_self ..) h.2
        have hv := hk c (List.mem_cons_self ..)
        unfold condD at hm
        rw [h.1] at hm
        by_cases ho : c.op = 2 ∨ c.op = 4 ∨ c.op = 5 ∨ c.op = 6 ∨ c.op = 7
        · have h9 : c.op ≠ 9 := by omega
          have h33 : (c.op == 3) = false := by simp; omega
          unfold condK at hm
          rw [if_neg h9] at hm
          cases hf : foundV doc p with
          | none => rw [hf] at hm; exact absurd hm (by simp [h33])
          | some y =>
            rw [hf] at hm
            refine ⟨fun _ => rfl, fun x hx => ?_⟩
            injection hx with hx
            subst hx
            have hb := bound_in (dv := dv) (x := y) (v := c.val) c.op c.path c.subs (hd y hf) hv (c.val.list.any (fun z => cmpD dv y z == 0)) ho
            rw [show Flt.mk c.op c.path c.val c.subs = c by cases c; rfl] at hb
            exact hb.trans hm
        · have hb : boundF dv c = (⟨#[]⟩, ⟨#[]⟩, false) := by
            unfold boundF
            rw [if_neg (by omega), if_neg (by omega), if_neg (by omega), if_neg (by omega), if_neg (by omega)]
          rw [hb]
          exact ⟨(fun h => by cases h), fun x _ => inB_bnd0 _⟩
      · exact ⟨(fun h => by cases h), fun x _ => inB_bnd0 _⟩
    rw [foldB_cons]
    constructor
    · intro h
      rcases Bool.or_eq_true_iff.1 (show ((oneB dv p c).2.2.2 || (foldB dv p l).2.2.2) = true from h) with e | e
      · exact h3.1 e
      · exact h1 e
    · intro x hx
      rw [inB_both, h3.2 x hx, h2 x hx]
      rfl
end Go.Proofs.YtlomieopppndeaaDoor
