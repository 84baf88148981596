/- Whether a value meets a filter of bytes, by the filter's value: plain. -/
import Derived.Test.YtlomieopppndeaaGreatDoorDocLaw
namespace Go.Proofs.YtlomieopppndeaaGreatDoor
open Go.RowKit

/-- Whether what stands at a path (or nothing) meets a condition. -/
def condO (dv : Nat) (o : Option Val) (op : Int) (y : Val) : Bool := condK dv (.mk op ⟨#[]⟩ y []) o
def leafD (dv : Nat) (o : Option Val) (y : Val) : Bool := if isTests y = true then y.fields.all (fun t => condO dv o (namedI t.1) t.2) else condO dv o 2 y
/-- Whether a value meets a filter, by the filter's value. -/
def meetF (dv : Nat) (one : Val → Bool) (doc : Val) (fl : Fld) : Bool :=
  if namedI fl.1 = 0 then fl.2.list.all one else if namedI fl.1 = 1 then fl.2.list.any one else leafD dv (doc.find (partsOf fl.1)) fl.2
def meetD (dv : Nat) (doc : Val) : Nat → Val → Bool
  | 0, _ => false
  | d + 1, v => v.fields.all (meetF dv (meetD dv doc d) doc)
theorem leaf_false {dv : Nat} {o : Option Val} {y : Val} (h : isTests y = false) : leafD dv o y = (o.isSome && (cmpD dv (o.getD Val.zero) y == 0)) := by
  unfold leafD
  rw [if_neg (by rw [h]; decide)]
  unfold condO condK
  rw [if_neg (by show ¬ ((2 : Int) = 9); decide)]
  cases o with
  | none => rfl
  | some x => show oneK 2 (cmpD dv x y) _ = _; simp [oneK, Option.getD]
/-- Whether a value meets a condition by a name that is one. -/
theorem cond_none {dv : Nat} {op : Int} {y : Val} : condO dv none op y = if op = 9 then !(y.int == 1) else op == 3 := by
  unfold condO condK
  split
  · rename_i h
    have h' : op = 9 := h
    rw [if_pos h']
    show (false == (y.int == 1)) = _
    cases (y.int == 1) <;> rfl
  · rename_i h
    have h' : ¬ op = 9 := h
    rw [if_neg h']
    rfl
theorem cond_some {dv : Nat} {x : Val} {op : Int} {y : Val} : condO dv (some x) op y = if op = 9 then (y.int == 1) else oneK op (cmpD dv x y) (y.list.any (fun z => cmpD dv x z == 0)) := by
  unfold condO condK
  split
  · rename_i h
    have h' : op = 9 := h
    rw [if_pos h']
    show (true == (y.int == 1)) = _
    cases (y.int == 1) <;> rfl
  · rename_i h
    have h' : ¬ op = 9 := h
    rw [if_neg h']
    rfl
theorem mapE_allB {α : Type} {one : α → Except Int Flt} {p : Flt → Bool} {q : α → Bool} : ∀ {l : List α} {ss : List Flt}, (∀ x ∈ l, ∀ s, one x = .ok s → p s = q x) → mapE one l = .ok ss → ss.all p = l.all q
  | [], ss, _, h => by
    injection h with h
    subst h
    rfl
  | a :: r, ss, hp, h => by
    simp only [mapE] at h
    cases ha : one a with
    | error e => rw [ha] at h; cases h
    | ok t =>
      rw [ha] at h
      cases hr : mapE one r with
      | error e => rw [hr] at h; cases h
      | ok tt =>
        rw [hr] at h
        injection h with h
        subst h
        rw [List.all_cons, List.all_cons, hp a (List.mem_cons_self ..) t ha, mapE_allB (fun x hx => hp x (List.mem_cons_of_mem _ hx)) hr]
theorem mapE_anyB {α : Type} {one : α → Except Int Flt} {p : Flt → Bool} {q : α → Bool} : ∀ {l : List α} {ss : List Flt}, (∀ x ∈ l, ∀ s, one x = .ok s → p s = q x) → mapE one l = .ok ss → ss.any p = l.any q
  | [], ss, _, h => by
    injection h with h
    subst h
    rfl
  | a :: r, ss, hp, h => by
    simp only [mapE] at h
    cases ha : one a with
    | error e => rw [ha] at h; cases h
    | ok t =>
      rw [ha] at h
      cases hr : mapE one r with
      | error e => rw [hr] at h; cases h
      | ok tt =>
        rw [hr] at h
        injection h with h
        subst h
        rw [List.any_cons, List.any_cons, hp a (List.mem_cons_self ..) t ha, mapE_anyB (fun x hx => hp x (List.mem_cons_of_mem _ hx)) hr]
theorem manyE_ok {α : Type} {op : Int} {one : α → Except Int Flt} {l : List α} {f : Flt} (h : manyE op one l = .ok f) : ∃ ss, mapE one l = .ok ss ∧ f = .mk op ⟨#[]⟩ Val.zero ss := by
  unfold manyE at h
  cases hm : mapE one l with
  | error e => rw [hm] at h; cases h
  | ok ss =>
    rw [hm] at h
    injection h with h
    exact ⟨ss, rfl, h.symm⟩
theorem cond_at {dv M : Nat} {op : Int} {nm : ByteArray} {y doc : Val} (h : 2 ≤ op) (hp : pathOk nm = true) : matchD dv (M + 1) (.mk op nm y []) doc = condO dv (doc.find (partsOf nm)) op y := by
  rw [matchD, if_neg (by show ¬ op = 0; omega), if_neg (by show ¬ op = 1; omega)]
  show condK dv _ (foundV doc nm) = _
  unfold foundV
  rw [if_pos hp]
  rfl
theorem leaf_match {dv M F : Nat} {nm : ByteArray} {y doc : Val} {s : Flt} (hn : nm ∈ docNames.drop 2) (h : fieldD F (nm, y) = .ok s) : matchD dv (M + 2) s doc = leafD dv (doc.find (partsOf nm)) y := by
  obtain ⟨h1, h2, h3⟩ := docn_leaf hn
  cases F with
  | zero => cases h
  | succ F =>
    unfold fieldD at h
    rw [if_neg h1, if_neg (by simp [h2]), if_neg (by simp [h3])] at h
    unfold leafD
    by_cases ht : isTests y = true
    · rw [if_pos ht] at h ⊢
      obtain ⟨ss, hm, rfl⟩ := manyE_ok h
      rw [matchD, if_pos (show (Flt.mk 0 ⟨#[]⟩ Val.zero ss).op = 0 from rfl)]
      refine mapE_allB (fun t _ s hs => ?_) hm
      unfold testF at hs
      split at hs
      · cases hs
      · rename_i h2
        split at hs
        · cases hs
        · injection hs with hs
          subst hs
          exact cond_at (by omega) h3
    · rw [if_neg ht] at h ⊢
      injection h with h
      subst h
      exact cond_at (by decide) h3
/-- The law: to match a filter that was read is to meet its value. -/
theorem meet_doc (dv : Nat) (doc : Val) : ∀ (d F M : Nat) (v : Val) (f : Flt), 2 * d ≤ M → DocV d v → parseD F v = .ok f → matchD dv (M + 1) f doc = meetD dv doc d v
  | 0, _, _, _, _, _, h, _ => h.elim
  | d + 1, F, M, v, f, hM, hv, h => by
    obtain ⟨h5, _, _, hf⟩ := hv
    obtain ⟨M, rfl⟩ : ∃ M', M = M' + 2 := ⟨M - 2, by omega⟩
    unfold parseD parseE at h
    rw [if_neg (by simp [h5])] at h
    obtain ⟨ss, hm, rfl⟩ := manyE_ok h
    rw [matchD, if_pos (show (Flt.mk 0 ⟨#[]⟩ Val.zero ss).op = 0 from rfl), meetD]
    refine mapE_allB (fun fl hfl s hs => ?_) hm
    obtain ⟨nm, y⟩ := fl
    unfold meetF
    rcases hf _ hfl with ⟨hn, _⟩ | ⟨hn, _, _, _, _, hd⟩
    · have hj := (docn_leaf hn).1
      rw [if_neg (fun e => hj (.inl e)), if_neg (fun e => hj (.inr e))]
      exact leaf_match hn hs
    · cases F with
      | zero => cases hs
      | succ F =>
        have hj := docn_join hn
        unfold fieldD at hs
        rw [if_pos hj] at hs
        split at hs
        · cases hs
        · obtain ⟨tt, hm2, rfl⟩ := manyE_ok hs
          have key : ∀ x ∈ y.list, ∀ s, parseE (fieldD F) x = .ok s → matchD dv (M + 1) s doc = meetD dv doc d x := fun x hx s hs => meet_doc dv doc d F M x s (by omega) (hd x hx) hs
          rcases hj with h0 | h1
          · have h0' : (Flt.mk (namedI nm) ⟨#[]⟩ Val.zero tt).op = 0 := h0
            show matchD dv (M + 2) (Flt.mk (namedI nm) ⟨#[]⟩ Val.zero tt) doc = _
            rw [if_pos h0, matchD, if_pos h0']
            exact mapE_allB key hm2
          · have h1' : (Flt.mk (namedI nm) ⟨#[]⟩ Val.zero tt).op = 1 := h1
            have h1n : namedI nm = 1 := h1
            have h0' : ¬ (Flt.mk (namedI nm) ⟨#[]⟩ Val.zero tt).op = 0 := by show ¬ namedI nm = 0; omega
            show matchD dv (M + 2) (Flt.mk (namedI nm) ⟨#[]⟩ Val.zero tt) doc = _
            rw [if_neg (by show ¬ namedI nm = 0; omega), if_pos h1, matchD, if_neg h0', if_pos h1']
            exact mapE_anyB key hm2
end Go.Proofs.YtlomieopppndeaaGreatDoor
