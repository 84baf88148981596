/- append(s, ys...): s a row of one's own, ys a row of elements of several cells: laws. -/
import Derived.Test.YtlomieopppndeaaDoorRowLaw
import Derived.Laws.AppendOwnNone
namespace Go.Proofs.YtlomieopppndeaaDoor
open Go.RowKit

section
variable {P : Program} {ops : Array Oper} {rest : List Oper} {o : Oper} {a : Act} {Q : Exit → Act → World → Prop} {W : World}
theorem op_appendN {α : Type} {K : Knd α} {e B : Nat} {ok okx : Nat → Prop} {v : Value} {xs ys : List α} {A : Option Addr} {m c : Nat} {Kc : Act → World → Prop} (s y : Operand) (t : TypeId) (i : TypeInfo) (z : Value) (bytes : Nat)
    (ho : o.op = .call { callee := .builtin .append, args := #[s, y], argTypes := #[t, t] }) (ht : P.underlying t = some (.slice e)) (hi : P.info? e = some i) (hz : i.zero = some z) (hsize : i.size = K.sz) (hby : i.bytes = bytes) (hzs : z.cells.size = K.sz) (hsz : 0 < K.sz)
    (hs : a.eval s = v) (hy : a.eval y = .slice A m c) (hO : Own K e B W ok v xs) (hR : Row K W okx A m c ys) (hokx : ∀ k, okx k → ok k ∧ some k ≠ v.ownBlock)
    (hnew : ∀ k, W.heap.size ≤ k → ok k) (hlen : (xs.length + m) * bytes ≤ 140737488355328) (hl63 : xs.length + m ≤ 9223372036854775807) (hB : B ≤ W.heap.size)
    (h : ∀ v' w', Own K e B w' ok v' (xs ++ ys) → Only (fun k => v.ownBlock = some k) W w' → Kc (a.put o.dst v') w') : Oper.wp P o a W Kc Q := by
  cases A with
  | none =>
    obtain ⟨rfl, rfl, rfl⟩ : m = 0 ∧ c = 0 ∧ ys = [] := by
      rcases hR with ⟨_, h1, h2, h3⟩ | ⟨_, _, h, _⟩
      · exact ⟨h1, h2, h3⟩
      · cases h
    have hO0 := hO
    obtain ⟨h0, css, h1, hown, h2⟩ := hO
    have hrun := run_append_owned_none (P := P) (w := W) B t o.type e i K.sz ht hi v xs.length css.flatten hown
    unfold Oper.wp execOp
    simp only [ho, resolve, invoke, builtin, Sem.run_bind, Sem.run_pure, Result.andThen_ok, List.map_toArray, List.map_cons, List.map_nil, hs, hy, hrun]
    exact h v W (by rw [List.append_nil]; exact hO0) (Only.refl _ _)
  | some a0 =>
    obtain ⟨css2, hl2, hr2, hf2, hc2, hcell, hone⟩ := hR.flat hsz a0 rfl
    have hyl := hR.length
    obtain ⟨h0, css, h1, hown, h2⟩ := hO
    obtain ⟨v', w', hr, hown', hg, _, hat⟩ := run_append_own_at (P := P) W B t o.type e i z K.sz bytes ht hi hz hsize hby hzs hsz v xs.length css.flatten hown a0 m c css2.flatten hf2 hcell hone (by unfold maxLen; omega) hlen hB
    have hO : Only (fun k => v.ownBlock = some k) W w' := Only.of_grown hg
    unfold Oper.wp execOp
    simp only [ho, resolve, invoke, builtin, Sem.run_bind, Sem.run_pure, Result.andThen_ok, List.map_toArray, List.map_cons, List.map_nil, hs, hy, hr]
    refine h v' w' ⟨?_, css ++ css2, by simp [h1, hl2], ?_, ?_⟩ hO
    · intro g' hg'
      by_cases hlt : g' < W.heap.size
      · by_cases hvg : v.ownBlock = some g'
        · exact h0 g' hvg
        · rcases hat with hat | hat <;> rw [hat] at hg'
          · exact (hvg hg').elim
          · injection hg' with hg'
            omega
      · exact hnew g' (by omega)
    · rw [List.flatten_append, List.length_append, hyl]
      exact hown'
    · intro j y hj
      have hv' : ∀ k, k < W.heap.size → some k ≠ v.ownBlock → some k ≠ v'.ownBlock := fun k hk hne he => by
        rcases hat with hat | hat <;> rw [hat] at he
        · exact hne he
        · injection he with he
          omega
      rcases Nat.lt_or_ge j xs.length with hlt | hge
      · rw [List.getElem?_append_left hlt] at hj
        obtain ⟨cs1, a1, b1⟩ := h2 j y hj
        refine ⟨cs1, by rw [List.getElem?_append_left (by omega)]; exact a1, ?_⟩
        exact K.mono (fun k hk => ⟨hk.1.1, hv' k hk.2 hk.1.2⟩) (K.move (fun k hk => hO.block k hk.2 (fun e => hk.1.2 e.symm)) (K.bound b1))
      · rw [List.getElem?_append_right hge] at hj
        obtain ⟨cs2, a2, hx⟩ := hr2 _ y hj
        refine ⟨cs2, by rw [List.getElem?_append_right (by omega), h1]; exact a2, ?_⟩
        exact K.mono (fun k hk => ⟨(hokx k hk.1).1, hv' k hk.2 (hokx k hk.1).2⟩) (K.move (fun k hk => hO.block k hk.2 (fun e => (hokx k hk.1).2 e.symm)) (K.bound hx))
theorem wp_appendN {α : Type} {K : Knd α} {e B : Nat} {ok okx : Nat → Prop} {v : Value} {xs ys : List α} {A : Option Addr} {m c : Nat} (hgd : o.guard = none) (s y : Operand) (t : TypeId) (i : TypeInfo) (z : Value) (bytes : Nat)
    (ho : o.op = .call { callee := .builtin .append, args := #[s, y], argTypes := #[t, t] }) (ht : P.underlying t = some (.slice e)) (hi : P.info? e = some i) (hz : i.zero = some z) (hsize : i.size = K.sz) (hby : i.bytes = bytes) (hzs : z.cells.size = K.sz) (hsz : 0 < K.sz)
    (hs : a.eval s = v) (hy : a.eval y = .slice A m c) (hO : Own K e B W ok v xs) (hR : Row K W okx A m c ys) (hokx : ∀ k, okx k → ok k ∧ some k ≠ v.ownBlock)
    (hnew : ∀ k, W.heap.size ≤ k → ok k) (hlen : (xs.length + m) * bytes ≤ 140737488355328) (hl63 : xs.length + m ≤ 9223372036854775807) (hB : B ≤ W.heap.size)
    (h : ∀ v' w', Own K e B w' ok v' (xs ++ ys) → Only (fun k => v.ownBlock = some k) W w' → wpList P ops Q rest (a.put o.dst v') w') : wpList P ops Q (o :: rest) a W :=
  wpList_plain hgd fun _ hK => op_appendN s y t i z bytes ho ht hi hz hsize hby hzs hsz hs hy hO hR hokx hnew hlen hl63 hB fun v' w' h2 h3 => hK _ _ (h v' w' h2 h3)
end
end Go.Proofs.YtlomieopppndeaaDoor
