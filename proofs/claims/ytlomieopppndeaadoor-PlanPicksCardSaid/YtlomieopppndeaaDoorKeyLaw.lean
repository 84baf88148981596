/- Keys stand in the order of their values: plain laws. -/
import Derived.Test.YtlomieopppndeaaDoorCmpLaw
namespace Go.Proofs.YtlomieopppndeaaDoor
open Go.RowKit

def escB (b : UInt8) : List UInt8 := if b = 0 then [0, 255] else [b]
def writtenL (l : List UInt8) : List UInt8 := l.flatMap escB ++ [0, 1]
/-- So many bytes of a number, the greatest first. -/
def beL : Nat → Nat → List UInt8
  | 0, _ => []
  | k + 1, n => beL k (n / 256) ++ [UInt8.ofNat (n % 256)]
def numL (n : Int) : List UInt8 := beL 8 (n + 9223372036854775808).toNat
def keyL : Nat → Val → List UInt8
  | 0, _ => []
  | d + 1, x => UInt8.ofNat (x.kind + 1).toNat ::
    (if x.kind = 1 then [UInt8.ofNat x.int.toNat] else if x.kind = 2 then numL x.int else if x.kind = 3 then writtenL x.text.data.toList
     else if x.kind = 4 then x.list.flatMap (keyL d) ++ [0] else if x.kind = 5 then x.fields.flatMap (fun f => 1 :: (writtenL f.1.data.toList ++ keyL d f.2)) ++ [0] else [])

/-- What stands ahead decides, or what stands behind. -/
def Ord (a b : List UInt8) (c : Int) : Prop := ∀ s t, Lib.compareBytes (a ++ s) (b ++ t) = if c = 0 then Lib.compareBytes s t else c
theorem Ord.nil : Ord [] [] 0 := fun s t => by simp
theorem Ord.cast {a b : List UInt8} {c c' : Int} (h : Ord a b c) (e : c = c') : Ord a b c' := e ▸ h
theorem Ord.append {a b a' b' : List UInt8} {c c' : Int} (h : Ord a b c) (h' : Ord a' b' c') : Ord (a ++ a') (b ++ b') (if c = 0 then c' else c) := fun s t => by
  rw [List.append_assoc, List.append_assoc, h (a' ++ s) (b' ++ t), h' s t]
  by_cases e : c = 0
  · rw [if_pos e, if_pos e]
  · rw [if_neg e, if_neg e, if_neg e]
theorem Ord.same : ∀ a : List UInt8, Ord a a 0
  | [] => Ord.nil
  | x :: a => fun s t => by
    rw [List.cons_append, List.cons_append, Lib.compareBytes, if_neg (UInt8.lt_irrefl x), if_neg (UInt8.lt_irrefl x)]
    exact Ord.same a s t
theorem Ord.less {x y : UInt8} (h : x < y) (a b : List UInt8) : Ord (x :: a) (y :: b) (-1) := fun s t => by
  rw [List.cons_append, List.cons_append, Lib.compareBytes, if_pos h]; rfl
theorem Ord.more {x y : UInt8} (h : y < x) (a b : List UInt8) : Ord (x :: a) (y :: b) 1 := fun s t => by
  rw [List.cons_append, List.cons_append, Lib.compareBytes, if_neg (fun h' => UInt8.lt_irrefl x (UInt8.lt_trans h' h)), if_pos h]; rfl
theorem Ord.cons (x : UInt8) {a b : List UInt8} {c : Int} (h : Ord a b c) : Ord (x :: a) (x :: b) c := fun s t => by
  rw [List.cons_append, List.cons_append, Lib.compareBytes, if_neg (UInt8.lt_irrefl x), if_neg (UInt8.lt_irrefl x)]
  exact h s t
theorem ofNat_lt {m n : Nat} (hm : m < 256) (hn : n < 256) : UInt8.ofNat m < UInt8.ofNat n ↔ m < n := by
  rw [UInt8.lt_iff_toNat_lt, UInt8.toNat_ofNat', UInt8.toNat_ofNat', Nat.mod_eq_of_lt hm, Nat.mod_eq_of_lt hn]
theorem Ord.byte {m n : Nat} (hm : m < 256) (hn : n < 256) : Ord [UInt8.ofNat m] [UInt8.ofNat n] (cmpI m n) := by
  unfold cmpI
  rcases Nat.lt_trichotomy m n with h | h | h
  · rw [if_pos (by omega)]; exact Ord.less ((ofNat_lt hm hn).2 h) _ _
  · subst h; rw [if_neg (by omega), if_neg (by omega)]; exact Ord.same _
  · rw [if_neg (by omega), if_pos (by omega)]; exact Ord.more ((ofNat_lt hn hm).2 h) _ _
theorem Ord.be : ∀ (k m n : Nat), m < 256 ^ k → n < 256 ^ k → Ord (beL k m) (beL k n) (cmpI m n)
  | 0, m, n, hm, hn => by
    obtain rfl : m = 0 := by simpa using hm
    obtain rfl : n = 0 := by simpa using hn
    exact Ord.nil
  | k + 1, m, n, hm, hn => by
    rw [Nat.pow_succ] at hm hn
    have h1 := Ord.be k (m / 256) (n / 256) (Nat.div_lt_of_lt_mul (by omega)) (Nat.div_lt_of_lt_mul (by omega))
    have h2 := Ord.byte (Nat.mod_lt m (by decide : 0 < 256)) (Nat.mod_lt n (by decide : 0 < 256))
    refine (h1.append h2).cast ?_
    unfold cmpI
    rcases Nat.lt_trichotomy m n with h | h | h
    · by_cases e : m / 256 < n / 256
      · rw [if_pos (show ((m / 256 : Nat) : Int) < ((n / 256 : Nat) : Int) by omega), if_neg (by decide), if_pos (by omega)]
      · have e2 : m / 256 = n / 256 := by omega
        rw [e2, if_neg (Int.lt_irrefl _), if_neg (Int.lt_irrefl _), if_pos rfl, if_pos (by omega), if_pos (by omega)]
    · subst h
      rw [if_neg (Int.lt_irrefl _), if_neg (Int.lt_irrefl _), if_pos rfl, if_neg (Int.lt_irrefl _), if_neg (Int.lt_irrefl _), if_neg (Int.lt_irrefl _), if_neg (Int.lt_irrefl _)]
    · by_cases e : n / 256 < m / 256
      · rw [if_neg (show ¬ ((m / 256 : Nat) : Int) < ((n / 256 : Nat) : Int) by omega), if_pos (show ((n / 256 : Nat) : Int) < ((m / 256 : Nat) : Int) by omega), if_neg (by decide), if_neg (by omega), if_pos (by omega)]
      · have e2 : m / 256 = n / 256 := by omega
        rw [e2, if_neg (Int.lt_irrefl _), if_neg (Int.lt_irrefl _), if_pos rfl, if_neg (by omega), if_pos (by omega), if_neg (by omega), if_pos (by omega)]
theorem Ord.num {m n : Int} (hm : inI64 m) (hn : inI64 n) : Ord (numL m) (numL n) (cmpI m n) := by
  unfold inI64 at hm hn
  refine (Ord.be 8 _ _ (by omega) (by omega)).cast ?_
  unfold cmpI
  split <;> split <;> (try split) <;> (try split) <;> omega
theorem pos_of_ne {x : UInt8} (h : x ≠ 0) : (0 : UInt8) < x := by
  rw [UInt8.lt_iff_toNat_lt]
  have : x.toNat ≠ 0 := fun e => h (UInt8.toNat_inj.1 e)
  show 0 < x.toNat
  omega
theorem written_cons (x : UInt8) (a : List UInt8) : writtenL (x :: a) = escB x ++ writtenL a := by unfold writtenL; rw [List.flatMap_cons, List.append_assoc]
theorem Ord.written : ∀ a b : List UInt8, Ord (writtenL a) (writtenL b) (Lib.compareBytes a b)
  | [], [] => Ord.same _
  | [], y :: b => by
    rw [written_cons]
    by_cases h : y = 0
    · subst h
      exact Ord.cons 0 (Ord.less (by decide) _ _)
    · unfold escB
      rw [if_neg h]
      exact Ord.less (pos_of_ne h) _ _
  | x :: a, [] => by
    rw [written_cons]
    by_cases h : x = 0
    · subst h
      exact Ord.cons 0 (Ord.more (by decide) _ _)
    · unfold escB
      rw [if_neg h]
      exact Ord.more (pos_of_ne h) _ _
  | x :: a, y :: b => by
    rw [written_cons, written_cons, Lib.compareBytes]
    by_cases h : x < y
    · rw [if_pos h]
      have hy : y ≠ 0 := fun e => by subst e; rw [UInt8.lt_iff_toNat_lt] at h; simp at h
      unfold escB
      rw [if_neg hy]
      split
      · exact Ord.less (pos_of_ne hy) _ _
      · exact Ord.less h _ _
    · rw [if_neg h]
      by_cases h2 : y < x
      · rw [if_pos h2]
        have hx : x ≠ 0 := fun e => by subst e; rw [UInt8.lt_iff_toNat_lt] at h2; simp at h2
        unfold escB
        rw [if_neg hx]
        split
        · exact Ord.more (pos_of_ne hx) _ _
        · exact Ord.more h2 _ _
      · rw [if_neg h2]
        have e : x = y := by
          rw [UInt8.lt_iff_toNat_lt] at h h2
          exact UInt8.toNat_inj.1 (by omega)
        subst e
        exact ((Ord.same _).append (Ord.written a b)).cast (by rw [if_pos rfl])

/-- What a value must be for its key to stand in order. -/
def KeyOk : Nat → Val → Prop
  | 0, _ => False
  | d + 1, x => 0 ≤ x.kind ∧ x.kind ≤ 5 ∧ inI64 x.int ∧ (x.kind = 1 → x.int = 0 ∨ x.int = 1) ∧ (∀ y ∈ x.list, KeyOk d y) ∧ ∀ f ∈ x.fields, KeyOk d f.2
theorem KeyOk.of_good : ∀ (d : Nat) (x : Val), GoodV d x → KeyOk d x
  | 0, _, h => h
  | d + 1, _, h => ⟨h.1, h.2.1, h.2.2.1, h.2.2.2.2.2.2.2.2.2.2.2.2, fun y hy => KeyOk.of_good d y (h.2.2.2.2.2.1 y hy), fun f hf => KeyOk.of_good d f.2 (h.2.2.2.2.2.2.2.1 f hf)⟩
theorem key_head {d : Nat} {x : Val} (h : KeyOk d x) : ∃ (k : UInt8) (r : List UInt8), keyL d x = k :: r ∧ 0 < k := by
  cases d with
  | zero => exact h.elim
  | succ d =>
    refine ⟨_, _, rfl, ?_⟩
    have := h.1; have := h.2.1
    rw [UInt8.lt_iff_toNat_lt, UInt8.toNat_ofNat', Nat.mod_eq_of_lt (by omega)]
    show 0 < _
    omega
theorem Ord.list {α : Type} (f : α → List UInt8) (c : α → α → Int) (P : α → Prop) (ho : ∀ a b, P a → P b → Ord (f a) (f b) (c a b)) (hh : ∀ a, P a → ∃ (k : UInt8) (r : List UInt8), f a = k :: r ∧ 0 < k) :
    ∀ l m : List α, (∀ a ∈ l, P a) → (∀ a ∈ m, P a) → Ord (l.flatMap f ++ [0]) (m.flatMap f ++ [0]) (cmpList c l m)
  | [], [], _, _ => Ord.same _
  | [], b :: m, _, hm => by
    obtain ⟨k, r, e, hk⟩ := hh b (hm b (List.mem_cons_self ..))
    rw [List.flatMap_cons, e]
    exact Ord.less hk _ _
  | a :: l, [], hl, _ => by
    obtain ⟨k, r, e, hk⟩ := hh a (hl a (List.mem_cons_self ..))
    rw [List.flatMap_cons, e]
    exact Ord.more hk _ _
  | a :: l, b :: m, hl, hm => by
    rw [List.flatMap_cons, List.flatMap_cons, List.append_assoc, List.append_assoc, cmpList_cons]
    exact (ho a b (hl a (List.mem_cons_self ..)) (hm b (List.mem_cons_self ..))).append (Ord.list f c P ho hh l m (fun x hx => hl x (List.mem_cons_of_mem _ hx)) (fun x hx => hm x (List.mem_cons_of_mem _ hx)))
/-- Keys stand in the order of their values. -/
theorem key_ord : ∀ (d : Nat) (x y : Val), KeyOk d x → KeyOk d y → Ord (keyL d x) (keyL d y) (cmpD d x y)
  | 0, _, _, h, _ => h.elim
  | d + 1, x, y, hx, hy => by
    have hx1 := hx.1; have hx2 := hx.2.1; have hy1 := hy.1; have hy2 := hy.2.1
    have hb := Ord.byte (m := (x.kind + 1).toNat) (n := (y.kind + 1).toNat) (by omega) (by omega)
    rw [cmpD]
    by_cases hk : x.kind = y.kind
    · rw [if_pos hk, keyL, keyL, ← hk]
      refine Ord.cons _ ?_
      by_cases h1 : x.kind = 1
      · rw [if_pos h1, if_pos h1, if_pos (.inl h1)]
        have e1 := hx.2.2.2.1 h1
        have e2 := hy.2.2.2.1 (hk ▸ h1)
        refine (Ord.byte (by omega) (by omega)).cast ?_
        rw [show ((x.int.toNat : Nat) : Int) = x.int by omega, show ((y.int.toNat : Nat) : Int) = y.int by omega]
      · by_cases h2 : x.kind = 2
        · rw [if_neg h1, if_neg h1, if_pos h2, if_pos h2, if_pos (.inr h2)]
          exact Ord.num hx.2.2.1 hy.2.2.1
        · rw [if_neg h1, if_neg h1, if_neg h2, if_neg h2, if_neg (show ¬ (x.kind = 1 ∨ x.kind = 2) from fun h => h.elim h1 h2)]
          by_cases h3 : x.kind = 3
          · rw [if_pos h3, if_pos h3, if_pos h3]
            exact Ord.written _ _
          · rw [if_neg h3, if_neg h3, if_neg h3]
            by_cases h4 : x.kind = 4
            · rw [if_pos h4, if_pos h4, if_pos h4]
              exact Ord.list _ _ (KeyOk d) (key_ord d) (fun a ha => key_head ha) _ _ hx.2.2.2.2.1 hy.2.2.2.2.1
            · rw [if_neg h4, if_neg h4, if_neg h4]
              by_cases h5 : x.kind = 5
              · rw [if_pos h5, if_pos h5, if_pos h5]
                refine Ord.list _ _ (fun f : Fld => KeyOk d f.2) (fun f g hf hg => ?_) (fun a _ => ⟨1, _, rfl, by decide⟩) _ _ hx.2.2.2.2.2 hy.2.2.2.2.2
                exact Ord.cons 1 ((Ord.written _ _).append (key_ord d f.2 g.2 hf hg))
              · rw [if_neg h5, if_neg h5, if_neg h5]
                exact Ord.nil
    · rw [if_neg hk, keyL, keyL]
      have e : cmpI ((x.kind + 1).toNat : Int) ((y.kind + 1).toNat : Int) = cmpI x.kind y.kind := by
        unfold cmpI
        split <;> split <;> (try split) <;> (try split) <;> omega
      have hne : cmpI x.kind y.kind ≠ 0 := by unfold cmpI; split <;> (try split) <;> omega
      intro s t
      rw [if_neg hne, List.cons_append, List.cons_append]
      have := hb (((if x.kind = 1 then [UInt8.ofNat x.int.toNat] else if x.kind = 2 then numL x.int else if x.kind = 3 then writtenL x.text.data.toList
     else if x.kind = 4 then x.list.flatMap (keyL d) ++ [0] else if x.kind = 5 then x.fields.flatMap (fun f => 1 :: (writtenL f.1.data.toList ++ keyL d f.2)) ++ [0] else [])) ++ s) (((if y.kind = 1 then [UInt8.ofNat y.int.toNat] else if y.kind = 2 then numL y.int else if y.kind = 3 then writtenL y.text.data.toList
     else if y.kind = 4 then y.list.flatMap (keyL d) ++ [0] else if y.kind = 5 then y.fields.flatMap (fun f => 1 :: (writtenL f.1.data.toList ++ keyL d f.2)) ++ [0] else [])) ++ t)
      rw [e, if_neg hne] at this
      exact this
end Go.Proofs.YtlomieopppndeaaDoor
