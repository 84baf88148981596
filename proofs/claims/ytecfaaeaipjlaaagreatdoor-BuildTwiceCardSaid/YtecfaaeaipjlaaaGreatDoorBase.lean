/- Words of this session's walks: what is kept behind a call, rows in memory, events. -/
import Derived.Test.YtecfaaeaipjlaaaGreatDoorRows
import Derived.WalkKit
import Derived.WalkSpells
import Derived.WalkLawsBesides
import Derived.Lib.Hide
import Derived.Below
import Derived.Maps.AppendAt
namespace Go.Proofs.YtecfaaeaipjlaaaGreatDoor
open Go.RowKit

/-- A fact kept out of the walk's sight. -/
structure Ap (p : Prop) : Prop where
  out : p
/-- A fact on a world, kept out of sight; `Ap` under another name where several are laid. -/
theorem Ap.of {p : Prop} (h : p) : Ap p := ⟨h⟩

theorem max2_int (k k' : IntKind) (x y : Int) : Builtin.max2 (.int k x) (.int k' y) = pure (.int k (if x < y then y else x)) := by simp only [Builtin.max2, gt_iff_lt]
theorem min2_int (k k' : IntKind) (x y : Int) : Builtin.min2 (.int k x) (.int k' y) = pure (.int k (if y < x then y else x)) := by simp only [Builtin.min2]

/-! ### What is kept: all blocks of w but those of S -/
structure Only (S : Nat → Prop) (w w' : World) : Prop where
  os : w'.os = w.os
  tape : w'.tape = w.tape
  output : w'.output = w.output
  size : w.heap.size ≤ w'.heap.size
  block : ∀ k, k < w.heap.size → ¬ S k → w'.heap[k]? = w.heap[k]?
section
variable {S S' S2 : Nat → Prop} {w w1 w2 w3 : World} {g : Nat} {o : Obj}
theorem Only.refl (S : Nat → Prop) (w : World) : Only S w w := ⟨rfl, rfl, rfl, Nat.le_refl _, fun _ _ _ => rfl⟩
theorem Only.trans (h : Only S w w1) (k : Only S2 w1 w2) (hs : ∀ i, S2 i → S i ∨ w.heap.size ≤ i) : Only S w w2 :=
  ⟨k.os.trans h.os, k.tape.trans h.tape, k.output.trans h.output, Nat.le_trans h.size k.size, fun i hi hn => (k.block i (Nat.lt_of_lt_of_le hi h.size) (fun h2 => (hs i h2).elim hn (fun h3 => by omega))).trans (h.block i hi hn)⟩
theorem Only.mono (h : Only S w w1) (hs : ∀ i, S i → S' i) : Only S' w w1 := ⟨h.os, h.tape, h.output, h.size, fun i hi hn => h.block i hi (fun hk => hn (hs i hk))⟩
theorem Only.of_below (h : Below w.heap.size w w1) (S : Nat → Prop) : Only S w w1 := ⟨h.os, h.tape, h.output, h.size, fun i hi _ => h.block i hi⟩
theorem Only.below (h : Only S w w1) {B : Nat} (hB : B ≤ w.heap.size) (hs : ∀ i, S i → B ≤ i) : Below B w w1 := ⟨h.os, h.tape, h.output, h.size, fun i hi => h.block i (by omega) (fun hk => by have := hs i hk; omega)⟩
theorem Only.of_grown {row : Option Nat} (h : w.grownBy w1 row) : Only (fun k => row = some k) w w1 := ⟨h.os, h.tape, h.output, h.size, fun i hi hn => h.block i hi (fun e => hn e.symm)⟩
theorem Only.setCell (w : World) (p : Addr) (u : Value) : Only (fun k => k = p.block) w (w.setCell p u) := ⟨rfl, rfl, rfl, by simp [World.setCell], fun i _ hn => Below.heap_setCell w p u i hn⟩
theorem bel_alloc (w : World) (o : Obj) : Below w.heap.size w (w.alloc o) := (Below.refl _ _).alloc (Nat.le_refl _) o
theorem bel_step (h : Below w.heap.size w w1) (k : Below w1.heap.size w1 w2) : Below w.heap.size w w2 := h.trans (k.mono h.size)
theorem bel_stepB {B : Nat} (h : Below B w w1) (hB : B ≤ w1.heap.size) (k : Below w1.heap.size w1 w2) : Below B w w2 := h.trans (k.mono hB)
theorem bel_only {B : Nat} (h : Below B w w1) (hB : B ≤ w1.heap.size) (k : Only S w1 w2) (hs : ∀ i, S i → B ≤ i) : Below B w w2 := h.trans (k.below hB hs)
theorem blk_lt (h : w.heap[g]? = some o) : g < w.heap.size := (Array.getElem?_eq_some_iff.1 h).1
theorem blk_new {k : Nat} (h : k = w.heap.size) : (w.alloc o).heap[k]? = some o := by subst h; exact (MapKept.heap_alloc w o).1
theorem blk_old {o' : Obj} (h : w.heap[g]? = some o) : (w.alloc o').heap[g]? = some o := (Below.heap_alloc w o' g (blk_lt h)).trans h
theorem blk_draw (h : w.heap[g]? = some o) : w.drew.heap[g]? = some o := h
theorem bel_draw (w : World) : Below w.heap.size w w.drew := (Below.refl _ _).drew
theorem blk_bel (h : w.heap[g]? = some o) (hb : Below w.heap.size w w1) : w1.heap[g]? = some o := (hb.block g (blk_lt h)).trans h
theorem blk_belB {B : Nat} (h : w.heap[g]? = some o) (hb : Below B w w1) (hg : g < B) : w1.heap[g]? = some o := (hb.block g hg).trans h
theorem blk_only (h : w.heap[g]? = some o) (hk : Only S w w1) (hn : ¬ S g) : w1.heap[g]? = some o := (hk.block g (blk_lt h) hn).trans h
theorem blk_cells {cs : Array Value} {t : TypeId} {fr : Nat × Nat} (h : w.heap[g]? = some (.cells cs t fr)) : ∀ j, w.cell? ⟨g, j, none⟩ = cs[j]? := fun j => cell_of_row w g j cs t fr h
theorem blk_free {cs : Array Value} {t : TypeId} (h : w.heap[g]? = some (.cells cs t (0, 0))) : ∀ j, w.frozen? ⟨g, j, none⟩ = false := fun j => by simp [World.frozen?, h]
theorem blk_set {cs : Array Value} {t : TypeId} {fr : Nat × Nat} (h : w.heap[g]? = some (.cells cs t fr)) (i : Nat) (u : Value) : (w.setCell ⟨g, i, none⟩ u).heap[g]? = some (.cells (cs.setIfInBounds i u) t fr) := by
  simp [World.setCell, Array.getElem?_modify, h]
end

/-! ### Kinds of data, and rows of them -/
structure Knd (α : Type) where
  sz : Nat
  R : World → (Nat → Prop) → α → List Value → Prop
  len : ∀ {w ok x cs}, R w ok x cs → cs.length = sz
  one : ∀ {w ok x cs}, R w ok x cs → ∀ u ∈ cs, u.oneCell' = true
  mono : ∀ {w : World} {ok ok' : Nat → Prop} {x cs}, (∀ k, ok k → ok' k) → R w ok x cs → R w ok' x cs
  bound : ∀ {w : World} {ok x cs}, R w ok x cs → R w (fun k => ok k ∧ k < w.heap.size) x cs
  move : ∀ {w w' : World} {ok x cs}, (∀ k, ok k → w'.heap[k]? = w.heap[k]?) → R w ok x cs → R w' ok x cs

section
variable {α : Type} {K : Knd α} {w w' : World} {ok ok' S : Nat → Prop} {x : α} {xs : List α} {cs : List Value} {A : Option Addr} {n c : Nat}
theorem Knd.below (h : K.R w ok x cs) (hb : Below w.heap.size w w') : K.R w' ok x cs := K.mono (fun _ hk => hk.1) (K.move (fun k hk => hb.block k hk.2) (K.bound h))
theorem Knd.only (h : K.R w ok x cs) (hb : Only S w w') (hs : ∀ k, ok k → ¬ S k) : K.R w' ok x cs := K.mono (fun _ hk => hk.1) (K.move (fun k hk => hb.block k hk.2 (hs k hk.1)) (K.bound h))

/-- Cells from an offset on. -/
def CellsAt (w : World) (g off : Nat) (cs : List Value) : Prop := ∀ j u, cs[j]? = some u → w.cell? ⟨g, off + j, none⟩ = some u
theorem CellsAt.move {g off : Nat} (h : CellsAt w g off cs) (hb : w'.heap[g]? = w.heap[g]?) : CellsAt w' g off cs := fun j u hj => (World.cell?_of_block (w := w) hb).trans (h j u hj)

/-- A row of elements that is only read. -/
def Row (K : Knd α) (w : World) (ok : Nat → Prop) (A : Option Addr) (n c : Nat) (xs : List α) : Prop :=
  (A = none ∧ n = 0 ∧ c = 0 ∧ xs = []) ∨
  ∃ g off, A = some ⟨g, off, none⟩ ∧ xs.length = n ∧ n ≤ c ∧ c ≤ maxLen ∧ ok g ∧ g < w.heap.size ∧ ∀ (i : Nat) (x : α), xs[i]? = some x → ∃ cs, K.R w ok x cs ∧ CellsAt w g (off + i * K.sz) cs
theorem Row.nil (K : Knd α) (w : World) (ok : Nat → Prop) : Row K w ok none 0 0 [] := .inl ⟨rfl, rfl, rfl, rfl⟩
theorem Row.length (h : Row K w ok A n c xs) : xs.length = n := by
  rcases h with ⟨_, rfl, _, rfl⟩ | ⟨_, _, _, h, _⟩
  · rfl
  · exact h
theorem Row.cap (h : Row K w ok A n c xs) : n ≤ c ∧ c ≤ 9223372036854775807 := by
  rcases h with ⟨_, rfl, rfl, _⟩ | ⟨_, _, _, _, h1, h2, _⟩
  · exact ⟨Nat.le_refl _, by omega⟩
  · unfold maxLen at h2; exact ⟨h1, by omega⟩
theorem Row.mono (hs : ∀ k, ok k → ok' k) (h : Row K w ok A n c xs) : Row K w ok' A n c xs := by
  rcases h with h | ⟨g, off, h1, h2, h3, h4, h5, h6, h7⟩
  · exact .inl h
  · exact .inr ⟨g, off, h1, h2, h3, h4, hs _ h5, h6, fun i x hx => by obtain ⟨cs, a, b⟩ := h7 i x hx; exact ⟨cs, K.mono hs a, b⟩⟩
theorem Row.bound (h : Row K w ok A n c xs) : Row K w (fun k => ok k ∧ k < w.heap.size) A n c xs := by
  rcases h with h | ⟨g, off, h1, h2, h3, h4, h5, h6, h7⟩
  · exact .inl h
  · exact .inr ⟨g, off, h1, h2, h3, h4, ⟨h5, h6⟩, h6, fun i x hx => by obtain ⟨cs, a, b⟩ := h7 i x hx; exact ⟨cs, K.bound a, b⟩⟩
theorem Row.move (hm : ∀ k, ok k → w'.heap[k]? = w.heap[k]?) (h : Row K w ok A n c xs) : Row K w' ok A n c xs := by
  rcases h with h | ⟨g, off, h1, h2, h3, h4, h5, h6, h7⟩
  · exact .inl h
  · refine .inr ⟨g, off, h1, h2, h3, h4, h5, ?_, fun i x hx => by obtain ⟨cs, a, b⟩ := h7 i x hx; exact ⟨cs, K.move hm a, b.move (hm _ h5)⟩⟩
    have : w'.heap[g]? = some w.heap[g] := by rw [hm g h5]; exact Array.getElem?_eq_getElem h6
    exact blk_lt this
theorem Row.below (h : Row K w ok A n c xs) (hb : Below w.heap.size w w') : Row K w' ok A n c xs := Row.mono (fun _ hk => hk.1) (Row.move (fun k hk => hb.block k hk.2) (Row.bound h))
theorem Row.only (h : Row K w ok A n c xs) (hb : Only S w w') (hs : ∀ k, ok k → ¬ S k) : Row K w' ok A n c xs := Row.mono (fun _ hk => hk.1) (Row.move (fun k hk => hb.block k hk.2 (hs k hk.1)) (Row.bound h))
/-- An element of a row. -/
theorem Row.elem (h : Row K w ok A n c xs) {i : Nat} (hi : i < n) : ∃ g off x cs, A = some ⟨g, off, none⟩ ∧ xs[i]? = some x ∧ K.R w ok x cs ∧ CellsAt w g (off + i * K.sz) cs := by
  rcases h with ⟨_, rfl, _⟩ | ⟨g, off, h1, h2, _, _, _, _, h7⟩
  · omega
  · have hx : xs[i]? = some (xs[i]'(by omega)) := List.getElem?_eq_getElem (by omega)
    obtain ⟨cs, a, b⟩ := h7 i _ hx
    exact ⟨g, off, _, cs, h1, hx, a, b⟩

/-- A row of one's own, which may be appended to. -/
def Own (K : Knd α) (e B : Nat) (w : World) (ok : Nat → Prop) (v : Value) (xs : List α) : Prop :=
  (∀ g, v.ownBlock = some g → ok g) ∧ ∃ css : List (List Value), css.length = xs.length ∧ w.ownsRow B e K.sz v xs.length css.flatten ∧
    ∀ (i : Nat) (x : α), xs[i]? = some x → ∃ cs, css[i]? = some cs ∧ K.R w (fun k => ok k ∧ some k ≠ v.ownBlock) x cs
theorem Own.nil (K : Knd α) (e B : Nat) (w : World) (ok : Nat → Prop) : Own K e B w ok (.slice none 0 0) [] :=
  ⟨fun g hg => by simp [Value.ownBlock] at hg, [], rfl, World.ownsRow_nil _ _ _ _, fun i x h => by simp at h⟩
theorem Own.lt {e B : Nat} {v : Value} (h : Own K e B w ok v xs) : ∀ g, v.ownBlock = some g → B ≤ g ∧ g < w.heap.size := by
  obtain ⟨_, css, _, ho, _⟩ := h
  exact ho.lt
theorem Own.slice {e B : Nat} {v : Value} (h : Own K e B w ok v xs) : ∃ A c, v = .slice A xs.length c ∧ xs.length ≤ c ∧ c ≤ 9223372036854775807 := by
  obtain ⟨_, css, _, ho, _⟩ := h
  rcases ho.2 with ⟨rfl, h0⟩ | ⟨g, cap, cur, rfl, _, _, h1, h2, _⟩
  · exact ⟨none, 0, by rw [h0], by omega, by omega⟩
  · unfold maxLen at h2
    exact ⟨_, cap, rfl, h1, by omega⟩
theorem Own.only {e B : Nat} {v : Value} (h : Own K e B w ok v xs) (hb : Only S w w') (hs : ∀ k, ok k → ¬ S k) : Own K e B w' ok v xs := by
  obtain ⟨h0, css, h1, ho, h2⟩ := h
  refine ⟨h0, css, h1, ⟨ho.1, ?_⟩, fun i x hx => ?_⟩
  · rcases ho.2 with hn | ⟨g, cap, cur, rfl, hB, hg, r⟩
    · exact .inl hn
    · exact .inr ⟨g, cap, cur, rfl, hB, blk_only hg hb (hs g (h0 g rfl)), r⟩
  · obtain ⟨cs, a, b⟩ := h2 i x hx
    exact ⟨cs, a, Knd.only b hb (fun k hk => hs k hk.1)⟩
theorem Own.below {e B : Nat} {v : Value} (h : Own K e B w ok v xs) (hb : Below w.heap.size w w') : Own K e B w' ok v xs := h.only (Only.of_below hb (fun _ => False)) (fun _ _ hf => hf)
theorem Own.mono {e B : Nat} {v : Value} (hs : ∀ k, ok k → ok' k) (h : Own K e B w ok v xs) : Own K e B w ok' v xs := by
  obtain ⟨h0, css, h1, ho, h2⟩ := h
  exact ⟨fun g hg => hs g (h0 g hg), css, h1, ho, fun i x hx => by obtain ⟨cs, a, b⟩ := h2 i x hx; exact ⟨cs, a, K.mono (fun k hk => ⟨hs k hk.1, hk.2⟩) b⟩⟩
theorem flat_at (css : List (List Value)) (sz : Nat) (hl : ∀ cs ∈ css, cs.length = sz) (i : Nat) (cs : List Value) (hi : css[i]? = some cs) (j : Nat) (u : Value) (hj : cs[j]? = some u) : css.flatten[i * sz + j]? = some u := by
  induction css generalizing i with
  | nil => simp at hi
  | cons a r ih =>
    have ha := hl a (by simp)
    have hjl : j < cs.length := (List.getElem?_eq_some_iff.1 hj).1
    cases i with
    | zero =>
      simp at hi
      subst hi
      rw [List.flatten_cons, Nat.zero_mul, Nat.zero_add, List.getElem?_append_left hjl, hj]
    | succ i =>
      simp at hi
      rw [List.flatten_cons, List.getElem?_append_right (by rw [ha, Nat.succ_mul]; omega), ha, show (i + 1) * sz + j - sz = i * sz + j by rw [Nat.succ_mul]; omega]
      exact ih (fun cs h => hl cs (by simp [h])) i hi
/-- A row of one's own, handed on. -/
theorem Own.row {e B : Nat} {v : Value} (h : Own K e B w ok v xs) : ∃ A c, v = .slice A xs.length c ∧ Row K w ok A xs.length c xs := by
  obtain ⟨h0, css, h1, ho, h2⟩ := h
  rcases ho.2 with ⟨rfl, h3⟩ | ⟨g, cap, cur, rfl, hB, hg, h3, h4, _⟩
  · obtain rfl : xs = [] := List.length_eq_zero_iff.1 h3
    exact ⟨none, 0, rfl, Row.nil _ _ _⟩
  · refine ⟨_, cap, rfl, .inr ⟨g, 0, rfl, rfl, h3, h4, h0 g rfl, blk_lt hg, fun i x hx => ?_⟩⟩
    obtain ⟨cs, a, b⟩ := h2 i x hx
    refine ⟨cs, K.mono (fun _ hk => hk.1) b, fun j u hj => ?_⟩
    have hcl : ∀ cs ∈ css, cs.length = K.sz := by
      intro cs hcs
      obtain ⟨i', hi', he⟩ := List.getElem_of_mem hcs
      have hx' : xs[i']? = some (xs[i']'(by omega)) := List.getElem?_eq_getElem (by omega)
      obtain ⟨cs', a', b'⟩ := h2 i' _ hx'
      have : css[i']? = some cs := by rw [List.getElem?_eq_getElem hi', he]
      rw [this] at a'
      injection a' with a'
      subst a'
      exact K.len b'
    have := ho.cells (g := g) rfl (i * K.sz + j) u (flat_at css K.sz hcl i cs a j u hj)
    rw [show (⟨g, 0, none⟩ : Addr).add (i * K.sz + j) = ⟨g, i * K.sz + j, none⟩ from by unfold Addr.add; split <;> simp_all] at this
    rw [Nat.zero_add]
    exact this
end

/-! ### Events of the walk -/
section
variable {P : Program} {ops : Array Oper} {rest : List Oper} {o : Oper} {a : Act} {Q : Exit → Act → World → Prop} {W : World}
theorem gate {P : Program} {ops : Array Oper} {rest : List Oper} {o : Oper} {a : Act} {Q : Exit → Act → World → Prop} {W : World} (op : Op) (_ho : o.op = op) (h : wpList P ops Q (o :: rest) a W) : wpList P ops Q (o :: rest) a W := h

/-- append(s, x), s a row of one's own, x one element, which lies in a new block: as one operation. -/
theorem op_append {α : Type} {K : Knd α} {e B : Nat} {ok okx : Nat → Prop} {v : Value} {xs : List α} {x : α} {cs : List Value} {Kc : Act → World → Prop} (s y : Operand) (t : TypeId) (i : TypeInfo) (z : Value) (bytes : Nat) {gx : Nat} {tx : TypeId}
    (ho : o.op = .call { callee := .builtin .append, args := #[s, y], argTypes := #[t, t] }) (ht : P.underlying t = some (.slice e)) (hi : P.info? e = some i) (hz : i.zero = some z) (hsize : i.size = K.sz) (hby : i.bytes = bytes) (hzs : z.cells.size = K.sz) (hsz : 0 < K.sz)
    (hs : a.eval s = v) (hy : a.eval y = .slice (some ⟨gx, 0, none⟩) 1 1) (hO : Own K e B W ok v xs) (hgx : W.heap[gx]? = some (.cells cs.toArray tx (0, 0))) (hx : K.R W okx x cs) (hokx : ∀ k, okx k → ok k ∧ some k ≠ v.ownBlock)
    (hnew : ∀ k, W.heap.size ≤ k → ok k) (hlen : (xs.length + 1) * bytes ≤ 140737488355328) (hl63 : xs.length + 1 ≤ 9223372036854775807) (hB : B ≤ W.heap.size)
    (h : ∀ v' w', Own K e B w' ok v' (xs ++ [x]) → Only (fun k => v.ownBlock = some k) W w' → Kc (a.put o.dst v') w') : Oper.wp P o a W Kc Q := by
  obtain ⟨h0, css, h1, hown, h2⟩ := hO
  have hcl := K.len hx
  obtain ⟨v', w', hr, hown', hg, _, hat⟩ := run_append_own_at (P := P) W B t o.type e i z K.sz bytes ht hi hz hsize hby hzs hsz v xs.length css.flatten hown ⟨gx, 0, none⟩ 1 1 cs (by omega)
    (by
      intro j u hj
      rw [show (⟨gx, 0, none⟩ : Addr).add j = ⟨gx, j, none⟩ from by unfold Addr.add; split <;> simp_all, blk_cells hgx]
      simpa using hj) (K.one hx) (by unfold maxLen; omega) hlen hB
  have hO : Only (fun k => v.ownBlock = some k) W w' := Only.of_grown hg
  unfold Oper.wp execOp
  simp only [ho, resolve, invoke, builtin, Sem.run_bind, Sem.run_pure, Result.andThen_ok, List.map_toArray, List.map_cons, List.map_nil, hs, hy, hr]
  refine h v' w' ⟨?_, css ++ [cs], by simp [h1], ?_, ?_⟩ hO
  · -- the new row's block may be
    intro g' hg'
    by_cases hlt : g' < W.heap.size
    · by_cases hvg : v.ownBlock = some g'
      · exact h0 g' hvg
      · rcases hat with hat | hat <;> rw [hat] at hg'
        · exact (hvg hg').elim
        · injection hg' with hg'
          omega
    · exact hnew g' (by omega)
  · simpa using hown'
  · intro j y hj
    have hv' : ∀ k, k < W.heap.size → some k ≠ v.ownBlock → some k ≠ v'.ownBlock := fun k hk hne he => by
      rcases hat with hat | hat <;> rw [hat] at he
      · exact hne he
      · injection he with he
        omega
    rcases Nat.lt_or_ge j xs.length with hlt | hge
    · rw [List.getElem?_append_left hlt] at hj
      obtain ⟨cs1, a1, b1⟩ := h2 j y hj
      refine ⟨cs1, by rw [List.getElem?_append_left (by omega)]; exact a1, ?_⟩
      exact K.mono (fun k hk => ⟨hk.1.1, hv' k hk.2 hk.1.2⟩) (K.move (fun k hk => hO.block k hk.2 (fun e => hk.1.2 e.symm)) (K.bound b1))
    · rw [List.getElem?_append_right hge] at hj
      have hj0 : j - xs.length = 0 := by
        rcases Nat.eq_zero_or_pos (j - xs.length) with h | h
        · exact h
        · rw [List.getElem?_eq_none (by simp; omega)] at hj
          cases hj
      rw [hj0] at hj
      simp at hj
      subst hj
      refine ⟨cs, by rw [List.getElem?_append_right (by omega), show j - css.length = 0 by omega]; rfl, ?_⟩
      exact K.mono (fun k hk => ⟨(hokx k hk.1).1, hv' k hk.2 (hokx k hk.1).2⟩) (K.move (fun k hk => hO.block k hk.2 (fun e => (hokx k hk.1).2 e.symm)) (K.bound hx))
/-- .. in a list of operations. -/
theorem wp_append {α : Type} {K : Knd α} {e B : Nat} {ok okx : Nat → Prop} {v : Value} {xs : List α} {x : α} {cs : List Value} (hgd : o.guard = none) (s y : Operand) (t : TypeId) (i : TypeInfo) (z : Value) (bytes : Nat) {gx : Nat} {tx : TypeId}
    (ho : o.op = .call { callee := .builtin .append, args := #[s, y], argTypes := #[t, t] }) (ht : P.underlying t = some (.slice e)) (hi : P.info? e = some i) (hz : i.zero = some z) (hsize : i.size = K.sz) (hby : i.bytes = bytes) (hzs : z.cells.size = K.sz) (hsz : 0 < K.sz)
    (hs : a.eval s = v) (hy : a.eval y = .slice (some ⟨gx, 0, none⟩) 1 1) (hO : Own K e B W ok v xs) (hgx : W.heap[gx]? = some (.cells cs.toArray tx (0, 0))) (hx : K.R W okx x cs) (hokx : ∀ k, okx k → ok k ∧ some k ≠ v.ownBlock)
    (hnew : ∀ k, W.heap.size ≤ k → ok k) (hlen : (xs.length + 1) * bytes ≤ 140737488355328) (hl63 : xs.length + 1 ≤ 9223372036854775807) (hB : B ≤ W.heap.size)
    (h : ∀ v' w', Own K e B w' ok v' (xs ++ [x]) → Only (fun k => v.ownBlock = some k) W w' → wpList P ops Q rest (a.put o.dst v') w') : wpList P ops Q (o :: rest) a W :=
  wpList_plain hgd fun _ hK => op_append s y t i z bytes ho ht hi hz hsize hby hzs hsz hs hy hO hgx hx hokx hnew hlen hl63 hB fun v' w' h2 h3 => hK _ _ (h v' w' h2 h3)
/-- .. as one step of a region that draws its order. -/
theorem step_append {α : Type} {K : Knd α} {e B : Nat} {ok okx : Nat → Prop} {v : Value} {xs : List α} {x : α} {cs : List Value} {Kc : Act → World → Prop} {E : Prop} (hgd : o.guard = none) (s y : Operand) (t : TypeId) (i : TypeInfo) (z : Value) (bytes : Nat) {gx : Nat} {tx : TypeId}
    (ho : o.op = .call { callee := .builtin .append, args := #[s, y], argTypes := #[t, t] }) (ht : P.underlying t = some (.slice e)) (hi : P.info? e = some i) (hz : i.zero = some z) (hsize : i.size = K.sz) (hby : i.bytes = bytes) (hzs : z.cells.size = K.sz) (hsz : 0 < K.sz)
    (hs : a.eval s = v) (hy : a.eval y = .slice (some ⟨gx, 0, none⟩) 1 1) (hO : Own K e B W ok v xs) (hgx : W.heap[gx]? = some (.cells cs.toArray tx (0, 0))) (hx : K.R W okx x cs) (hokx : ∀ k, okx k → ok k ∧ some k ≠ v.ownBlock)
    (hnew : ∀ k, W.heap.size ≤ k → ok k) (hlen : (xs.length + 1) * bytes ≤ 140737488355328) (hl63 : xs.length + 1 ≤ 9223372036854775807) (hB : B ≤ W.heap.size)
    (h : ∀ v' w', Own K e B w' ok v' (xs ++ [x]) → Only (fun k => v.ownBlock = some k) W w' → Kc (a.put o.dst v') w') : if Region.wanted o (yielded ops a.tmps) = true then Oper.wp P o a W Kc Q else E := by
  have hw : Region.wanted o (yielded ops a.tmps) = true := by simp [Region.wanted, hgd]
  rw [if_pos hw]
  exact op_append s y t i z bytes ho ht hi hz hsize hby hzs hsz hs hy hO hgx hx hokx hnew hlen hl63 hB h
end
end Go.Proofs.YtecfaaeaipjlaaaGreatDoor
