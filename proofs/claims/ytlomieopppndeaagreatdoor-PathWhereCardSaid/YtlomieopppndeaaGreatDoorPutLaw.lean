/- Values with another value at the end of a path, or without it: plain laws. -/
import Derived.Test.YtlomieopppndeaaGreatDoorPathFind
namespace Go.Proofs.YtlomieopppndeaaGreatDoor
open Go.RowKit

def gtB (a b : ByteArray) : Bool := !Op.bytesLess a.toList b.toList && !(a.toList == b.toList)
/-- Where a field of that name is to stand. -/
def gIdx (fs : List Fld) (name : ByteArray) : Nat := (fs.findIdx? (fun f => gtB f.1 name)).getD fs.length
/-- Fields with one of that name. -/
def setF (fs : List Fld) (name : ByteArray) (v : Val) : List Fld :=
  match fs.findIdx? (fun f => decide (f.1 = name)) with
  | some k => fs.set k (name, v)
  | none => fs.take (gIdx fs name) ++ (name, v) :: fs.drop (gIdx fs name)
def Val.setFields (x : Val) (fs : List Fld) : Val := .mk x.kind x.int x.text x.list fs
def Val.setList (x : Val) (l : List Val) : Val := .mk x.kind x.int x.text l x.fields
theorem Val.setFields_same (x : Val) : x.setFields x.fields = x := by cases x; rfl
theorem Val.setList_same (x : Val) : x.setList x.list = x := by cases x; rfl
def Val.set (x : Val) (name : ByteArray) (v : Val) : Val := if x.kind = 5 then x.setFields (setF x.fields name v) else x
def Val.del (x : Val) (name : ByteArray) : Option Val := if x.kind = 5 then (x.fields.findIdx? (fun f => decide (f.1 = name))).map (fun k => x.setFields (x.fields.eraseIdx k)) else none
def Val.with (x : Val) (p : ByteArray) (y : Val) : Val :=
  if x.kind = 5 then x.set p y else match placeOf x.list.length p with
    | some k => x.setList (x.list.set k y)
    | none => x
def Val.obj : Val := .mk 5 0 ⟨#[]⟩ [] []
def Val.put (x : Val) : List ByteArray → Val → Option Val
  | [], v => some v
  | p :: r, v => match x.step p with
    | none => if x.kind = 5 then (Val.obj.put r v).map (x.with p) else none
    | some y => (y.put r v).map (x.with p)
def Val.cut (x : Val) : List ByteArray → Option Val
  | [] => none
  | [p] => x.del p
  | p :: q :: r => match x.step p with
    | none => none
    | some y => (y.cut (q :: r)).map (x.with p)
def Val.may (x : Val) : List ByteArray → Bool
  | [] => true
  | p :: r => match x.step p with
    | none => decide (x.kind = 5)
    | some y => y.may r

theorem findIdx_split {α : Type} (p : α → Bool) (l : List α) (k : Nat) (h : l.findIdx? p = some k) : ∃ a x b, l = a ++ x :: b ∧ a.length = k ∧ p x = true ∧ ∀ y ∈ a, p y = false := by
  obtain ⟨hk, hp, hn⟩ := List.findIdx?_eq_some_iff_getElem.1 h
  refine ⟨l.take k, l[k], l.drop (k + 1), ?_, by rw [List.length_take]; omega, hp, ?_⟩
  · rw [← List.drop_eq_getElem_cons hk, List.take_append_drop]
  · intro y hy
    obtain ⟨j, hj, rfl⟩ := List.getElem_of_mem hy
    rw [List.length_take] at hj
    rw [List.getElem_take]
    simpa using hn j (by omega)
theorem set_split {α : Type} (a b : List α) (x y : α) (k : Nat) (h : a.length = k) : (a ++ x :: b).set k y = a ++ y :: b := by
  subst h
  rw [List.set_append_right _ _ (Nat.le_refl _)]
  simp
theorem find_miss {α : Type} (p : α → Bool) (l : List α) (h : ∀ y ∈ l, p y = false) : l.find? p = none := List.find?_eq_none.2 fun y hy => by rw [h y hy]; decide
theorem findF_none {fs : List Fld} {name : ByteArray} (h : fs.findIdx? (fun f => decide (f.1 = name)) = none) : ∀ f ∈ fs, f.1 ≠ name := by
  intro f hf
  have := List.findIdx?_eq_none_iff.1 h f hf
  simpa using this
theorem setF_find (fs : List Fld) (name : ByteArray) (v : Val) : (setF fs name v).find? (fun f => decide (f.1 = name)) = some (name, v) := by
  unfold setF
  cases h : fs.findIdx? (fun f => decide (f.1 = name)) with
  | some k =>
    obtain ⟨a, x, b, rfl, ha, hx, hn⟩ := findIdx_split _ _ _ h
    show List.find? _ (List.set _ k (name, v)) = _
    rw [set_split a b x _ k ha, List.find?_append, find_miss _ _ hn]
    simp
  | none =>
    have hn := findF_none h
    show List.find? _ (fs.take (gIdx fs name) ++ (name, v) :: fs.drop (gIdx fs name)) = _
    rw [List.find?_append, find_miss _ _ (fun y hy => by simpa using hn y (List.mem_of_mem_take hy))]
    simp
theorem setF_find_ne (fs : List Fld) (name q : ByteArray) (v : Val) (hq : q ≠ name) : (setF fs name v).find? (fun f => decide (f.1 = q)) = fs.find? (fun f => decide (f.1 = q)) := by
  unfold setF
  cases h : fs.findIdx? (fun f => decide (f.1 = name)) with
  | some k =>
    obtain ⟨a, x, b, rfl, ha, hx, hn⟩ := findIdx_split _ _ _ h
    show List.find? _ (List.set _ k (name, v)) = _
    have hx' : x.1 = name := by simpa using hx
    rw [set_split a b x _ k ha, List.find?_append, List.find?_append]
    simp [hx', Ne.symm hq]
  | none =>
    show List.find? _ (fs.take (gIdx fs name) ++ (name, v) :: fs.drop (gIdx fs name)) = _
    conv => rhs; rw [← List.take_append_drop (gIdx fs name) fs]
    rw [List.find?_append, List.find?_append]
    simp [Ne.symm hq]
theorem setF_same (fs : List Fld) (name : ByteArray) (v : Val) (h : fs.find? (fun f => decide (f.1 = name)) = some (name, v)) : setF fs name v = fs := by
  unfold setF
  cases hk : fs.findIdx? (fun f => decide (f.1 = name)) with
  | some k =>
    obtain ⟨a, x, b, rfl, ha, hx, hn⟩ := findIdx_split _ _ _ hk
    rw [List.find?_append, find_miss _ _ hn] at h
    simp only [Option.none_or, List.find?_cons, hx] at h
    injection h with h
    show List.set _ k (name, v) = _
    rw [set_split a b x _ k ha, h]
  | none =>
    have hn := findF_none hk
    have := List.mem_of_find?_eq_some h
    exact (hn _ this rfl).elim
theorem setF_has (fs : List Fld) (name : ByteArray) (v : Val) (k : Nat) (h : fs.findIdx? (fun f => decide (f.1 = name)) = some k) : (setF fs name v).findIdx? (fun f => decide (f.1 = name)) = some k ∧ setF fs name v = fs.set k (name, v) := by
  have e : setF fs name v = fs.set k (name, v) := by unfold setF; rw [h]
  refine ⟨?_, e⟩
  rw [e]
  obtain ⟨a, x, b, rfl, ha, hx, hn⟩ := findIdx_split _ _ _ h
  rw [set_split a b x _ k ha, List.findIdx?_append]
  rw [List.findIdx?_eq_none_iff.2 (fun y hy => by simpa using hn y hy)]
  simp [List.findIdx?_cons, ha]
theorem setF_setF (fs : List Fld) (name : ByteArray) (v u : Val) (h : (fs.find? (fun f => decide (f.1 = name))).isSome = true) : setF (setF fs name v) name u = setF fs name u := by
  cases hk : fs.findIdx? (fun f => decide (f.1 = name)) with
  | some k =>
    obtain ⟨h1, h2⟩ := setF_has fs name v k hk
    rw [(setF_has _ name u k h1).2, h2, (setF_has fs name u k hk).2, List.set_set]
  | none =>
    have hn := findF_none hk
    rw [find_miss _ _ (fun y hy => by simpa using hn y hy)] at h
    cases h

theorem Val.get_eq (x : Val) (name : ByteArray) (h : x.kind = 5) : x.get name = (x.fields.find? (fun f => decide (f.1 = name))).map Prod.snd := if_pos h
theorem find_name {fs : List Fld} {name : ByteArray} {v : Val} (h : (fs.find? (fun f => decide (f.1 = name))).map Prod.snd = some v) : fs.find? (fun f => decide (f.1 = name)) = some (name, v) := by
  obtain ⟨f, hf, rfl⟩ := Option.map_eq_some_iff.1 h
  have := List.find?_some hf
  have e : f.1 = name := by simpa using this
  rw [hf, ← e]
theorem step5 (x : Val) (p : ByteArray) (h : x.kind = 5) : x.step p = (x.fields.find? (fun f => decide (f.1 = p))).map Prod.snd := by
  unfold Val.step
  rw [if_neg (by omega), Val.get_eq x p h]
theorem step4 (x : Val) (p : ByteArray) (h : x.kind = 4) : x.step p = (placeOf x.list.length p).bind (x.list[·]?) := if_pos h
theorem stepElse (x : Val) (p : ByteArray) (h4 : x.kind ≠ 4) (h5 : x.kind ≠ 5) : x.step p = none := by
  unfold Val.step Val.get
  rw [if_neg h4, if_neg h5]
/-- There is a place. -/
def Val.has (x : Val) (p : ByteArray) : Prop := x.kind = 5 ∨ (x.step p).isSome = true
theorem has_four {x : Val} {p : ByteArray} (h : x.has p) (h5 : x.kind ≠ 5) : x.kind = 4 ∧ ∃ k, placeOf x.list.length p = some k ∧ k < x.list.length ∧ p = digitB k := by
  rcases h with h | h
  · exact (h5 h).elim
  · by_cases h4 : x.kind = 4
    · rw [step4 x p h4] at h
      cases hp : placeOf x.list.length p with
      | none => rw [hp] at h; cases h
      | some k => exact ⟨h4, k, rfl, (placeOf_some hp).1, (placeOf_some hp).2⟩
    · rw [stepElse x p h4 h5] at h; cases h
theorem with_kind (x : Val) (p : ByteArray) (y : Val) : (x.with p y).kind = x.kind := by
  unfold Val.with Val.set
  split
  · rfl
  · split <;> rfl
theorem with5 (x : Val) (p : ByteArray) (y : Val) (h : x.kind = 5) : x.with p y = x.setFields (setF x.fields p y) := by
  unfold Val.with Val.set
  rw [if_pos h, if_pos h]
theorem with4 (x : Val) (p : ByteArray) (y : Val) (k : Nat) (h : x.kind = 4) (hp : placeOf x.list.length p = some k) : x.with p y = x.setList (x.list.set k y) := by
  unfold Val.with
  rw [if_neg (by omega), hp]
theorem step_with (x : Val) (p : ByteArray) (y : Val) (h : x.has p) : (x.with p y).step p = some y := by
  by_cases h5 : x.kind = 5
  · rw [step5 _ _ (by rw [with_kind]; exact h5), with5 x p y h5]
    show ((setF x.fields p y).find? _).map Prod.snd = _
    rw [setF_find]; rfl
  · obtain ⟨h4, k, hp, hk, hd⟩ := has_four h h5
    rw [step4 _ _ (by rw [with_kind]; exact h4), with4 x p y k h4 hp]
    show (placeOf (x.list.set k y).length p).bind ((x.list.set k y)[·]?) = _
    rw [List.length_set, hp]
    show (x.list.set k y)[k]? = _
    rw [List.getElem?_set_self hk]
theorem step_with_ne (x : Val) (p q : ByteArray) (y : Val) (h : x.has p) (hq : q ≠ p) : (x.with p y).step q = x.step q := by
  by_cases h5 : x.kind = 5
  · rw [step5 _ _ (by rw [with_kind]; exact h5), with5 x p y h5, step5 _ _ h5]
    show ((setF x.fields p y).find? _).map Prod.snd = _
    rw [setF_find_ne _ _ _ _ hq]
  · obtain ⟨h4, k, hp, hk, hd⟩ := has_four h h5
    rw [step4 _ _ (by rw [with_kind]; exact h4), with4 x p y k h4 hp, step4 _ _ h4]
    show (placeOf (x.list.set k y).length q).bind ((x.list.set k y)[·]?) = _
    rw [List.length_set]
    cases hj : placeOf x.list.length q with
    | none => rfl
    | some j =>
      have hne : k ≠ j := fun e => hq (by rw [hd, (placeOf_some hj).2, e])
      show (x.list.set k y)[j]? = _
      rw [List.getElem?_set_ne hne]; rfl
theorem with_same (x : Val) (p : ByteArray) (y : Val) (h : x.step p = some y) : x.with p y = x := by
  by_cases h5 : x.kind = 5
  · rw [with5 x p y h5]
    rw [step5 _ _ h5] at h
    rw [setF_same _ _ _ (find_name h), Val.setFields_same]
  · obtain ⟨h4, k, hp, hk, hd⟩ := has_four (.inr (by rw [h]; rfl)) h5
    rw [with4 x p y k h4 hp]
    rw [step4 _ _ h4, hp] at h
    have h' : x.list[k]? = some y := h
    rw [List.getElem?_eq_getElem hk] at h'
    injection h' with h'
    rw [← h', List.set_getElem_self, Val.setList_same]
theorem with_with (x : Val) (p : ByteArray) (y z : Val) (h : (x.step p).isSome = true) : (x.with p y).with p z = x.with p z := by
  by_cases h5 : x.kind = 5
  · rw [with5 _ p z (by rw [with_kind]; exact h5), with5 x p y h5, with5 x p z h5]
    show Val.setFields _ (setF (setF x.fields p y) p z) = _
    rw [step5 _ _ h5, Option.isSome_map] at h
    rw [setF_setF _ _ _ _ h]; rfl
  · obtain ⟨h4, k, hp, hk, hd⟩ := has_four (.inr h) h5
    rw [with4 x p y k h4 hp, with4 x p z k h4 hp, with4 (x.setList (x.list.set k y)) p z k h4 (by show placeOf (x.list.set k y).length p = _; rw [List.length_set]; exact hp)]
    show Val.setList _ ((x.list.set k y).set k z) = _
    rw [List.set_set]; rfl

/-- What is put is found there. -/
theorem find_put : ∀ (l : List ByteArray) (x v y : Val), x.put l v = some y → y.find l = some v
  | [], x, v, y, h => by injection h with h; subst h; rfl
  | p :: r, x, v, y, h => by
    rw [Val.put] at h
    cases hs : x.step p with
    | none =>
      rw [hs] at h
      dsimp only at h
      split at h
      · rename_i h5
        obtain ⟨z, hz, rfl⟩ := Option.map_eq_some_iff.1 h
        rw [Val.find, step_with x p z (.inl h5)]
        exact find_put r _ v z hz
      · cases h
    | some x1 =>
      rw [hs] at h
      obtain ⟨z, hz, rfl⟩ := Option.map_eq_some_iff.1 h
      rw [Val.find, step_with x p z (.inr (by rw [hs]; rfl))]
      exact find_put r _ v z hz
/-- All that the path does not lead to is as it was. -/
theorem put_kind {p : ByteArray} {r : List ByteArray} {x v y : Val} (h : x.put (p :: r) v = some y) : y.kind = x.kind ∧ ∀ q, q ≠ p → y.step q = x.step q := by
  rw [Val.put] at h
  cases hs : x.step p with
  | none =>
    rw [hs] at h
    dsimp only at h
    split at h
    · rename_i h5
      obtain ⟨z, hz, rfl⟩ := Option.map_eq_some_iff.1 h
      exact ⟨with_kind _ _ _, fun q hq => step_with_ne x p q z (.inl h5) hq⟩
    · cases h
  | some x1 =>
    rw [hs] at h
    obtain ⟨z, hz, rfl⟩ := Option.map_eq_some_iff.1 h
    exact ⟨with_kind _ _ _, fun q hq => step_with_ne x p q z (.inr (by rw [hs]; rfl)) hq⟩
theorem put_same : ∀ (l : List ByteArray) (x v : Val), x.find l = some v → x.put l v = some x
  | [], x, v, h => by injection h with h; subst h; rfl
  | p :: r, x, v, h => by
    rw [Val.find] at h
    obtain ⟨y, hs, hy⟩ := Option.bind_eq_some_iff.1 h
    rw [Val.put, hs]
    dsimp only
    rw [put_same r y v hy]
    show some (x.with p y) = _
    rw [with_same x p y hs]
theorem put_put : ∀ (l : List ByteArray) (x a b y : Val), (x.find l).isSome = true → x.put l a = some y → y.put l b = x.put l b
  | [], x, a, b, y, _, h => rfl
  | p :: r, x, a, b, y, hf, h => by
    rw [Val.find] at hf
    cases hs : x.step p with
    | none => rw [hs] at hf; cases hf
    | some x1 =>
      rw [hs] at hf
      rw [Val.put, hs] at h
      obtain ⟨z, hz, rfl⟩ := Option.map_eq_some_iff.1 h
      rw [Val.put, Val.put, hs, step_with x p z (.inr (by rw [hs]; rfl))]
      dsimp only
      rw [put_put r x1 a b z hf hz]
      cases x1.put r b with
      | none => rfl
      | some u =>
        show some ((x.with p z).with p u) = _
        rw [with_with x p z u (by rw [hs]; rfl)]; rfl
theorem obj_put : ∀ (l : List ByteArray) (v : Val), (Val.obj.put l v).isSome = true
  | [], v => rfl
  | p :: r, v => by
    rw [Val.put, show Val.obj.step p = none from rfl]
    dsimp only
    rw [if_pos (show Val.obj.kind = 5 from rfl), Option.isSome_map]
    exact obj_put r v
theorem put_may : ∀ (l : List ByteArray) (x v : Val), (x.put l v).isSome = x.may l
  | [], x, v => rfl
  | p :: r, x, v => by
    rw [Val.put, Val.may]
    cases hs : x.step p with
    | none =>
      dsimp only
      by_cases h5 : x.kind = 5
      · rw [if_pos h5, Option.isSome_map, obj_put, decide_eq_true h5]
      · rw [if_neg h5, decide_eq_false h5]; rfl
    | some y =>
      dsimp only
      rw [Option.isSome_map, put_may r y v]

/-! ### What is cut -/
def Rise (fs : List Fld) : Prop := fs.Pairwise (fun f g => gtB g.1 f.1 = true ∧ g.1 ≠ f.1 ∧ gtB f.1 g.1 = false)
theorem names_rise : namesOf.Pairwise (fun f g => gtB g f = true ∧ g ≠ f ∧ gtB f g = false) := by
  have : ∀ (a b : ByteArray), (gtB b a = true ∧ b ≠ a ∧ gtB a b = false) ↔ (gtB b a && decide (b ≠ a) && !gtB a b) = true := by
    intro a b; simp [and_assoc]
  simp only [this]
  unfold gtB
  simp only [ByteArray.toList_eq]
  decide +kernel
theorem good_rise {d : Nat} {x : Val} (h : GoodV (d + 1) x) : Rise x.fields := by
  have := names_rise.sublist h.2.2.2.2.2.2.1
  exact List.pairwise_map.1 this
theorem del_split (x : Val) (name : ByteArray) (y : Val) (h : x.del name = some y) : ∃ a v b, x.kind = 5 ∧ x.fields = a ++ (name, v) :: b ∧ (∀ f ∈ a, f.1 ≠ name) ∧ y = x.setFields (a ++ b) ∧ x.step name = some v := by
  unfold Val.del at h
  split at h
  · rename_i h5
    obtain ⟨k, hk, rfl⟩ := Option.map_eq_some_iff.1 h
    obtain ⟨a, f, b, hf, ha, hx, hn⟩ := findIdx_split _ _ _ hk
    have e : f.1 = name := by simpa using hx
    obtain ⟨nm, v⟩ := f
    dsimp only at e
    subst e
    refine ⟨a, v, b, h5, hf, fun f hfm => by simpa using hn f hfm, ?_, ?_⟩
    · rw [hf, List.eraseIdx_append_of_length_le (by omega)]
      simp [ha]
    · rw [step5 x _ h5, hf, List.find?_append, find_miss _ _ hn]
      simp
  · cases h
theorem del_some (x : Val) (name : ByteArray) : (x.del name).isSome = (decide (x.kind = 5) && (x.step name).isSome) := by
  by_cases h5 : x.kind = 5
  · rw [step5 x _ h5, decide_eq_true h5, Bool.true_and, Option.isSome_map]
    unfold Val.del
    rw [if_pos h5, Option.isSome_map]
    cases hk : x.fields.findIdx? (fun f => decide (f.1 = name)) with
    | none =>
      have hn := findF_none hk
      rw [find_miss _ _ (fun y hy => by simpa using hn y hy)]; rfl
    | some k =>
      obtain ⟨a, f, b, hf, ha, hx, hn⟩ := findIdx_split _ _ _ hk
      rw [hf, List.find?_append, find_miss _ _ hn]
      simp [hx]
  · unfold Val.del
    rw [if_neg h5, decide_eq_false h5]; rfl
theorem del_back (x y v : Val) (name : ByteArray) (hr : Rise x.fields) (h : x.del name = some y) (hv : x.step name = some v) : y.step name = none ∧ y.kind = 5 ∧ y.with name v = x := by
  obtain ⟨a, v', b, h5, hf, hn, rfl, hs⟩ := del_split x name y h
  rw [hs] at hv
  injection hv with hv
  subst hv
  have hb : ∀ f ∈ b, f.1 ≠ name ∧ gtB f.1 name = true := by
    intro f hfb
    rw [hf] at hr
    have := (List.pairwise_append.1 hr).2.1
    have := (List.pairwise_cons.1 this).1 f hfb
    exact ⟨this.2.1, this.1⟩
  have hg : ∀ f ∈ a, gtB f.1 name = false := by
    intro f hfa
    rw [hf] at hr
    exact ((List.pairwise_append.1 hr).2.2 f hfa _ (List.mem_cons_self ..)).2.2
  have hnone : (a ++ b).findIdx? (fun f => decide (f.1 = name)) = none := List.findIdx?_eq_none_iff.2 fun f hfm => by
    rcases List.mem_append.1 hfm with hfm | hfm
    · simpa using hn f hfm
    · simpa using (hb f hfm).1
  refine ⟨?_, h5, ?_⟩
  · rw [step5 (x.setFields (a ++ b)) name h5]
    show ((a ++ b).find? _).map Prod.snd = none
    rw [find_miss _ _ (fun f hfm => by
      rcases List.mem_append.1 hfm with hfm | hfm
      · simpa using hn f hfm
      · simpa using (hb f hfm).1)]; rfl
  · rw [with5 _ _ _ (by exact h5)]
    show Val.setFields _ (setF (a ++ b) name v') = x
    have hi : gIdx (a ++ b) name = a.length := by
      unfold gIdx
      rw [List.findIdx?_append, List.findIdx?_eq_none_iff.2 (fun f hfm => by simpa using hg f hfm)]
      cases b with
      | nil => simp
      | cons f b =>
        rw [List.findIdx?_cons, (hb f (List.mem_cons_self ..)).2]
        simp
    unfold setF
    rw [hnone]
    dsimp only
    rw [hi, List.take_left, List.drop_left, ← hf]
    exact Val.setFields_same x
/-- Fields rise all the way. -/
def RiseD : Nat → Val → Prop
  | 0, _ => False
  | d + 1, x => Rise x.fields ∧ (∀ y ∈ x.list, RiseD d y) ∧ ∀ f ∈ x.fields, RiseD d f.2
theorem good_riseD : ∀ (d : Nat) (x : Val), GoodV d x → RiseD d x
  | 0, _, h => h
  | d + 1, _, h => ⟨good_rise h, fun y hy => good_riseD d y (h.2.2.2.2.2.1 y hy), fun f hf => good_riseD d f.2 (h.2.2.2.2.2.2.2.1 f hf)⟩
theorem riseD_step {d : Nat} {x y : Val} {p : ByteArray} (h : RiseD (d + 1) x) (hs : x.step p = some y) : RiseD d y := by
  unfold Val.step at hs
  split at hs
  · obtain ⟨k, _, hk⟩ := Option.bind_eq_some_iff.1 hs
    exact h.2.1 y (List.mem_of_getElem? hk)
  · unfold Val.get at hs
    split at hs
    · obtain ⟨f, hf, rfl⟩ := Option.map_eq_some_iff.1 hs
      exact h.2.2 f (List.mem_of_find?_eq_some hf)
    · cases hs
theorem cut_some : ∀ (l : List ByteArray) (x : Val), (x.cut l).isSome = ((x.find l).isSome && decide (l ≠ []) && decide (((x.find l.dropLast).getD Val.zero).kind = 5))
  | [], x => by simp [Val.cut]
  | [p], x => by
    rw [Val.cut, del_some]
    show _ = (((x.step p).bind fun y => y.find []).isSome && true && decide (x.kind = 5))
    cases x.step p <;> simp [Val.find]
  | p :: q :: r, x => by
    rw [Val.cut]
    cases hs : x.step p with
    | none => simp [Val.find, hs]
    | some y =>
      dsimp only
      rw [Option.isSome_map, cut_some (q :: r) y]
      have e1 : x.find (p :: q :: r) = y.find (q :: r) := by rw [Val.find, hs]; rfl
      have e2 : x.find (p :: q :: r).dropLast = y.find (q :: r).dropLast := by
        rw [List.dropLast_cons_of_ne_nil (by simp), Val.find, hs]; rfl
      rw [e1, e2]
      simp
theorem cut_back : ∀ (d : Nat) (l : List ByteArray) (x y v : Val), RiseD d x → x.cut l = some y → x.find l = some v → y.find l = none ∧ y.put l v = some x
  | 0, _, _, _, _, h, _, _ => h.elim
  | d + 1, [], x, y, v, h, hc, hf => by rw [Val.cut] at hc; cases hc
  | d + 1, [p], x, y, v, h, hc, hf => by
    rw [Val.cut] at hc
    have hs : x.step p = some v := by
      rw [Val.find] at hf
      obtain ⟨z, hz, he⟩ := Option.bind_eq_some_iff.1 hf
      injection he with he
      rw [hz, he]
    obtain ⟨h1, h2, h3⟩ := del_back x y v p h.1 hc hs
    refine ⟨by rw [Val.find, h1]; rfl, ?_⟩
    rw [Val.put, h1]
    dsimp only
    rw [if_pos h2]
    show some (y.with p v) = _
    rw [h3]
  | d + 1, p :: q :: r, x, y, v, h, hc, hf => by
    rw [Val.cut] at hc
    cases hs : x.step p with
    | none => rw [hs] at hc; cases hc
    | some x1 =>
      rw [hs] at hc
      obtain ⟨z, hz, rfl⟩ := Option.map_eq_some_iff.1 hc
      rw [Val.find, hs] at hf
      obtain ⟨h1, h2⟩ := cut_back d (q :: r) x1 z v (riseD_step h hs) hz hf
      have hsw := step_with x p z (.inr (by rw [hs]; rfl))
      refine ⟨by rw [Val.find, hsw]; exact h1, ?_⟩
      rw [Val.put, hsw]
      dsimp only
      rw [h2]
      show some ((x.with p z).with p x1) = _
      rw [with_with x p z x1 (by rw [hs]; rfl), with_same x p x1 hs]

/-! ### No long lists -/
theorem setF_mem {fs : List Fld} {name : ByteArray} {v : Val} {f : Fld} (h : f ∈ setF fs name v) : f ∈ fs ∨ f = (name, v) := by
  unfold setF at h
  split at h
  · exact (List.mem_or_eq_of_mem_set h)
  · rcases List.mem_append.1 h with h | h
    · exact .inl (List.mem_of_mem_take h)
    · rcases List.mem_cons.1 h with h | h
      · exact .inr h
      · exact .inl (List.mem_of_mem_drop h)
theorem setF_length (fs : List Fld) (name : ByteArray) (v : Val) : (setF fs name v).length ≤ fs.length + 1 := by
  unfold setF
  split
  · rw [List.length_set]; omega
  · rw [List.length_append, List.length_cons, List.length_take, List.length_drop]; omega
theorem few_with {N : Nat} {x y : Val} {p : ByteArray} (hx : Few N x) (hy : Few (N + 1) y) : Few (N + 1) (x.with p y) := by
  obtain ⟨m, hx⟩ := hx
  obtain ⟨m', hy⟩ := hy
  cases m with
  | zero => exact hx.elim
  | succ m =>
    have hx' := FewD.mono (Nat.le_succ N) (m + 1) (m + m' + 1) x (by omega) hx
    have hy' := FewD.mono (Nat.le_refl _) m' (m + m') y (by omega) hy
    refine ⟨m + m' + 1, ?_⟩
    unfold Val.with Val.set
    split
    · refine ⟨hx'.1, ?_, hx'.2.2.1, fun f hf => ?_⟩
      · have := setF_length x.fields p y
        have := hx.2.1
        show (setF x.fields p y).length ≤ _
        omega
      · rcases setF_mem hf with h | h
        · exact hx'.2.2.2 f h
        · rw [h]; exact hy'
    · split
      · refine ⟨by show (x.list.set _ y).length ≤ 10; rw [List.length_set]; exact hx'.1, hx'.2.1, fun z hz => ?_, hx'.2.2.2⟩
        rcases List.mem_or_eq_of_mem_set hz with h | h
        · exact hx'.2.2.1 z h
        · rw [h]; exact hy'
      · exact hx'
theorem few_obj (N : Nat) : Few N Val.obj := ⟨1, by decide, Nat.zero_le _, (fun y h => by cases h), (fun f h => by cases h)⟩
theorem few_put : ∀ (l : List ByteArray) {N : Nat} {x v y : Val}, Few N x → Few (N + 1) v → x.put l v = some y → Few (N + 1) y
  | [], N, x, v, y, hx, hv, h => by injection h with h; subst h; exact hv
  | p :: r, N, x, v, y, hx, hv, h => by
    rw [Val.put] at h
    cases hs : x.step p with
    | none =>
      rw [hs] at h
      dsimp only at h
      split at h
      · obtain ⟨z, hz, rfl⟩ := Option.map_eq_some_iff.1 h
        exact few_with hx (few_put r (few_obj N) hv hz)
      · cases h
    | some x1 =>
      rw [hs] at h
      obtain ⟨z, hz, rfl⟩ := Option.map_eq_some_iff.1 h
      exact few_with hx (few_put r (hx.step hs) hv hz)
theorem few_del {N : Nat} {x y : Val} {p : ByteArray} (hx : Few N x) (h : x.del p = some y) : Few N y := by
  obtain ⟨m, hx⟩ := hx
  obtain ⟨a, v, b, h5, hf, hn, rfl, hs⟩ := del_split x p y h
  cases m with
  | zero => exact hx.elim
  | succ m =>
    have hl := hx.2.1
    rw [hf] at hl
    refine ⟨m + 1, hx.1, ?_, hx.2.2.1, fun f hfm => hx.2.2.2 f ?_⟩
    · show (a ++ b).length ≤ N
      simp at hl ⊢; omega
    · rw [hf]
      rcases List.mem_append.1 hfm with h | h
      · exact List.mem_append.2 (.inl h)
      · exact List.mem_append.2 (.inr (List.mem_cons_of_mem _ h))
theorem few_cut : ∀ (l : List ByteArray) {N : Nat} {x y : Val}, Few N x → x.cut l = some y → Few (N + 1) y
  | [], N, x, y, hx, h => by rw [Val.cut] at h; cases h
  | [p], N, x, y, hx, h => by rw [Val.cut] at h; exact (few_del hx h).mono (Nat.le_succ N)
  | p :: q :: r, N, x, y, hx, h => by
    rw [Val.cut] at h
    cases hs : x.step p with
    | none => rw [hs] at h; cases h
    | some x1 =>
      rw [hs] at h
      obtain ⟨z, hz, rfl⟩ := Option.map_eq_some_iff.1 h
      exact few_with hx (few_cut (q :: r) (hx.step hs) hz)
end Go.Proofs.YtlomieopppndeaaGreatDoor
