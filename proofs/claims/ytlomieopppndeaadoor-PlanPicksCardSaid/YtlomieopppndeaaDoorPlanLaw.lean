/- Conditions of a filter, the range of keys that they let be, the plan: plain. -/
import Derived.Test.YtlomieopppndeaaDoorFltKnd
import Derived.Test.YtlomieopppndeaaDoorKeyLaw
import Derived.Lib.MinMaxS
namespace Go.Proofs.YtlomieopppndeaaDoor
open Go.RowKit

/-! ### Texts in their order -/
def ltA (a b : ByteArray) : Prop := a.data.toList < b.data.toList
instance : DecidableRel ltA := fun a b => inferInstanceAs (Decidable (a.data.toList < b.data.toList))
theorem ba_ext {a b : ByteArray} (h : a.data.toList = b.data.toList) : a = b := by
  cases a; cases b
  simp at h
  rw [h]
theorem ltA_irrefl (a : ByteArray) : ¬ ltA a a := List.lt_irrefl _
theorem ltA_trans {a b c : ByteArray} (h : ltA a b) (k : ltA b c) : ltA a c := List.lt_trans h k
theorem ltA_tri (a b : ByteArray) : ltA a b ∨ a = b ∨ ltA b a := by
  by_cases h : ltA a b
  · exact .inl h
  · by_cases k : ltA b a
    · exact .inr (.inr k)
    · exact .inr (.inl (ba_ext (List.le_antisymm (List.not_lt.1 k) (List.not_lt.1 h))))
theorem nlt_trans {a b c : ByteArray} (h : ¬ ltA a b) (k : ¬ ltA b c) : ¬ ltA a c := fun hc => by
  rcases ltA_tri a b with e | rfl | e
  · exact h e
  · exact k hc
  · exact k (ltA_trans e hc)
theorem nlt_empty (a : ByteArray) : ¬ ltA a ⟨#[]⟩ := by unfold ltA; simp
theorem empty_lt {a : ByteArray} (h : a ≠ ⟨#[]⟩) : ltA ⟨#[]⟩ a := by
  rcases ltA_tri ⟨#[]⟩ a with e | e | e
  · exact e
  · exact (h e.symm).elim
  · exact (nlt_empty _ e).elim
/-- a below b, where the empty text is above all. -/
def ltT (a b : ByteArray) : Prop := a ≠ ⟨#[]⟩ ∧ (b = ⟨#[]⟩ ∨ ltA a b)
instance : DecidableRel ltT := fun a b => inferInstanceAs (Decidable (a ≠ ⟨#[]⟩ ∧ (b = ⟨#[]⟩ ∨ ltA a b)))
theorem ltT_trans {a b c : ByteArray} (h : ltT a b) (k : ltT b c) : ltT a c := by
  refine ⟨h.1, ?_⟩
  rcases k.2 with e | e
  · exact .inl e
  · rcases h.2 with e2 | e2
    · exact (k.1 e2).elim
    · exact .inr (ltA_trans e2 e)
theorem nltT_trans {a b c : ByteArray} (h : ¬ ltT a b) (k : ¬ ltT b c) : ¬ ltT a c := fun hc => by
  have hb : b ≠ ⟨#[]⟩ := fun e => h ⟨hc.1, .inl e⟩
  have h' : ¬ ltA a b := fun e => h ⟨hc.1, .inr e⟩
  have k' : ¬ ltA b c := fun e => k ⟨hb, .inr e⟩
  rcases hc.2 with e | e
  · exact k ⟨hb, .inl e⟩
  · exact nlt_trans h' k' e
def pickR {α : Type} (R : α → α → Prop) [DecidableRel R] (a b : α) : α := if R b a then b else a
theorem pickR_assoc {α : Type} (R : α → α → Prop) [DecidableRel R] (ht : ∀ a b c, R a b → R b c → R a c) (hn : ∀ a b c, ¬ R a b → ¬ R b c → ¬ R a c) (a b c : α) : pickR R (pickR R a b) c = pickR R a (pickR R b c) := by
  unfold pickR
  by_cases h1 : R b a
  · rw [if_pos h1]
    by_cases h2 : R c b
    · rw [if_pos h2, if_pos (ht c b a h2 h1)]
    · rw [if_neg h2, if_pos h1]
  · rw [if_neg h1]
    by_cases h2 : R c b
    · rw [if_pos h2]
    · rw [if_neg h2, if_neg h1, if_neg (hn c b a h2 h1)]
def maxA (a b : ByteArray) : ByteArray := pickR (fun x y => ltA y x) a b
def toA (a b : ByteArray) : ByteArray := pickR ltT a b
theorem maxA_eq (a b : ByteArray) : maxA a b = Lib.maxS a b := rfl
theorem maxA_assoc (a b c : ByteArray) : maxA (maxA a b) c = maxA a (maxA b c) := pickR_assoc (fun x y => ltA y x) (fun _ _ _ h k => ltA_trans k h) (fun _ _ _ h k => nlt_trans k h) a b c
theorem toA_assoc (a b c : ByteArray) : toA (toA a b) c = toA a (toA b c) := pickR_assoc ltT (fun _ _ _ h k => ltT_trans h k) (fun _ _ _ h k => nltT_trans h k) a b c
theorem maxA_e (a : ByteArray) : maxA ⟨#[]⟩ a = a := by
  unfold maxA pickR
  split
  · rfl
  · rename_i h
    exact Decidable.byContradiction fun e => h (empty_lt (fun e2 => e e2.symm))
theorem maxA_r (a : ByteArray) : maxA a ⟨#[]⟩ = a := by unfold maxA pickR; exact if_neg (nlt_empty a)
theorem toA_e (a : ByteArray) : toA ⟨#[]⟩ a = a := by
  unfold toA pickR
  split
  · rfl
  · rename_i h
    exact Decidable.byContradiction fun e => h ⟨fun e2 => e e2.symm, .inl rfl⟩
theorem toA_r (a : ByteArray) : toA a ⟨#[]⟩ = a := by unfold toA pickR; exact if_neg (fun h => h.1 rfl)

/-! ### Conditions, and their range -/
def condsD : Nat → Flt → List Flt
  | 0, _ => []
  | d + 1, f => if f.op = 0 then f.subs.flatMap (condsD d) else [f]
def keyB (dv : Nat) (v : Val) : ByteArray := ⟨(keyL dv v).toArray⟩
def endB (k : ByteArray) : ByteArray := k ++ ⟨#[0]⟩
abbrev Bnd := ByteArray × ByteArray × Bool × Bool
def bnd0 : Bnd := (⟨#[]⟩, ⟨#[]⟩, false, false)
def boundF (dv : Nat) (f : Flt) : ByteArray × ByteArray × Bool :=
  if f.op = 2 then (keyB dv f.val, endB (keyB dv f.val), true) else if f.op = 4 then (endB (keyB dv f.val), ⟨#[]⟩, true) else if f.op = 5 then (keyB dv f.val, ⟨#[]⟩, true)
  else if f.op = 6 then (⟨#[]⟩, keyB dv f.val, true) else if f.op = 7 then (⟨#[]⟩, endB (keyB dv f.val), true) else (⟨#[]⟩, ⟨#[]⟩, false)
def bothB (s t : Bnd) : Bnd := (maxA s.1 t.1, toA s.2.1 t.2.1, s.2.2.1 || t.2.2.1, s.2.2.2 || t.2.2.2)
def oneB (dv : Nat) (path : ByteArray) (c : Flt) : Bnd := if c.path = path ∧ 2 ≤ c.op then ((boundF dv c).1, (boundF dv c).2.1, c.op == 2, (boundF dv c).2.2) else bnd0
def foldB (dv : Nat) (path : ByteArray) (l : List Flt) : Bnd := l.foldl (fun s c => bothB s (oneB dv path c)) bnd0
def boundsD (dv D : Nat) (f : Flt) (path : ByteArray) : Bnd := foldB dv path (condsD D f)
theorem bothB_assoc (s t u : Bnd) : bothB (bothB s t) u = bothB s (bothB t u) := by
  simp only [bothB, maxA_assoc, toA_assoc, Bool.or_assoc]
theorem bothB_e (s : Bnd) : bothB bnd0 s = s := by
  simp only [bothB, bnd0, maxA_e, toA_e, Bool.false_or]
theorem bothB_r (s : Bnd) : bothB s bnd0 = s := by
  simp only [bothB, bnd0, maxA_r, toA_r, Bool.or_false]
theorem foldB_from (dv : Nat) (path : ByteArray) : ∀ (l : List Flt) (s : Bnd), l.foldl (fun s c => bothB s (oneB dv path c)) s = bothB s (foldB dv path l)
  | [], s => (bothB_r s).symm
  | c :: l, s => by
    unfold foldB
    rw [List.foldl_cons, List.foldl_cons, foldB_from dv path l, foldB_from dv path l (bothB bnd0 _), bothB_e, bothB_assoc]
theorem foldB_append (dv : Nat) (path : ByteArray) (l m : List Flt) : foldB dv path (l ++ m) = bothB (foldB dv path l) (foldB dv path m) := by
  unfold foldB
  rw [List.foldl_append, foldB_from]
  rfl
theorem foldB_next (dv : Nat) (path : ByteArray) {l : List Flt} {k : Nat} {c : Flt} (h : l[k]? = some c) : foldB dv path (l.take (k + 1)) = bothB (foldB dv path (l.take k)) (oneB dv path c) := by
  have hk : k < l.length := (List.getElem?_eq_some_iff.1 h).1
  rw [List.getElem?_eq_getElem hk] at h
  injection h with h
  rw [List.take_succ_eq_append_getElem hk, foldB_append, h]
  unfold foldB
  rw [List.foldl_cons, List.foldl_nil, bothB_e]
/-- Two filters together let be what both do. -/
theorem bounds_both (dv D : Nat) (f g : Flt) (path : ByteArray) : boundsD dv (D + 1) (.mk 0 ⟨#[]⟩ Val.zero [f, g]) path = bothB (boundsD dv D f path) (boundsD dv D g path) := by
  show foldB dv path (List.flatMap (condsD D) [f, g]) = _
  rw [List.flatMap_cons, List.flatMap_cons, List.flatMap_nil, List.append_nil, foldB_append]
  rfl

/-! ### The plan -/
structure Pln where
  name : ByteArray
  fro : ByteArray
  til : ByteArray
def pln0 : Pln := ⟨⟨#[]⟩, ⟨#[]⟩, ⟨#[]⟩⟩
def plnOf (b : ByteArray → Bnd) (s : ByteArray × ByteArray) : Pln := ⟨s.1, (b s.2).1, (b s.2).2.1⟩
def firstP (b : ByteArray → Bnd) (l : List (ByteArray × ByteArray)) : Pln := match l.find? (fun s => (b s.2).2.2.2) with
  | some s => plnOf b s
  | none => pln0
def pickD (b : ByteArray → Bnd) (l : List (ByteArray × ByteArray)) : Pln := match l.find? (fun s => (b s.2).2.2.1) with
  | some s => plnOf b s
  | none => firstP b l
theorem find_erase {α : Type} (p : α → Bool) : ∀ (l : List α) (k : Nat), (∀ s x, l.find? p = some s → l[k]? = some x → x ≠ s) → (l.eraseIdx k).find? p = l.find? p
  | [], k, _ => by simp
  | a :: l, 0, h => by
    rw [List.eraseIdx_cons_zero, List.find?_cons]
    cases ha : p a with
    | true => exact (h a a (by rw [List.find?_cons, ha]) rfl rfl).elim
    | false => rfl
  | a :: l, k + 1, h => by
    rw [List.eraseIdx_cons_succ, List.find?_cons, List.find?_cons]
    cases ha : p a with
    | true => rfl
    | false => exact find_erase p l k (fun s x hs hx => h s x (by rw [List.find?_cons, ha]; exact hs) (by simpa using hx))
/-- Without an index that was not picked the same one is. -/
theorem pick_fewer (b : ByteArray → Bnd) (l : List (ByteArray × ByteArray)) (k : Nat) (x : ByteArray × ByteArray) (hx : l[k]? = some x) (hn : x.1 ≠ (pickD b l).name) : pickD b (l.eraseIdx k) = pickD b l := by
  have h1 : (l.eraseIdx k).find? (fun s => (b s.2).2.2.1) = l.find? (fun s => (b s.2).2.2.1) := find_erase _ l k (fun s y hs hy e => by
    rw [hx] at hy
    injection hy with hy
    subst hy e
    exact hn (by unfold pickD; rw [hs]; rfl))
  unfold pickD at hn ⊢
  rw [h1]
  cases he : l.find? (fun s => (b s.2).2.2.1) with
  | some s => rfl
  | none =>
    rw [he] at hn
    have h2 : (l.eraseIdx k).find? (fun s => (b s.2).2.2.2) = l.find? (fun s => (b s.2).2.2.2) := find_erase _ l k (fun s y hs hy e => by
      rw [hx] at hy
      injection hy with hy
      subst hy e
      refine hn ?_
      show x.1 = (firstP b l).name
      unfold firstP
      rw [hs]
      rfl)
    show firstP b (l.eraseIdx k) = firstP b l
    unfold firstP
    rw [h2]
end Go.Proofs.YtlomieopppndeaaDoor
