/- Facts that the walk of roundelaylaw16.Doc uses: slices of bytes, new structs, rows of one element. -/
import Derived.Test.YtlomieopppndeaaDoorTst16
import Derived.Test.YtlomieopppndeaaDoorDocLaw
import Derived.Test.YtlomieopppndeaaDoorRowLaw
namespace Go.Proofs.YtlomieopppndeaaDoor
open Go.RowKit

/-- b[j:]. -/
theorem cutFrom (A : Option Addr) (n c j : Nat) (hj : j ≤ n) (hn : n ≤ c) (hc : c ≤ 9223372036854775807) (hA : A = none → c = 0) (z : Int) (hz : z = (j : Int)) : ∃ A', (∀ w : World, (Instr.slice 22 (.slice A n c) (some (.int .i64 z)) none none).run Tryd.prog w = .ok (.slice A' (n - j) (c - j)) w) ∧
    ∀ (w : World) (ok : Nat → Prop), Bs w ok A n c → Bs w ok A' (n - j) (c - j) := by
  subst hz
  have e1 : (n : Int) ≤ (c : Int) := by omega
  have e2 : (j : Int) ≤ (n : Int) := by omega
  cases A with
  | none =>
    obtain rfl := hA rfl
    obtain rfl : n = 0 := by omega
    obtain rfl : j = 0 := by omega
    refine ⟨none, fun W => ?_, fun W ok h => h⟩
    simp [Instr.slice, Instr.sliceBounds, go_sem]
  | some a =>
    by_cases hcl : c = j
    · obtain rfl : n = j := by omega
      subst hcl
      refine ⟨some a, fun W => ?_, fun W ok h => ⟨by omega, by omega, (fun h => by cases h), .inl (by omega)⟩⟩
      simp [Instr.slice, Instr.sliceBounds, go_sem]
    · refine ⟨some (a.add j), fun W => ?_, fun W ok h => ⟨by omega, by omega, (fun h => by cases h), ?_⟩⟩
      · simp [Instr.slice, Instr.sliceBounds, go_sem, e2, hcl]
      · obtain ⟨_, _, _, h | ⟨g, off, e, a1, a2, f⟩⟩ := h
        · exact .inl (by omega)
        · injection e with e
          subst e
          refine .inr ⟨g, off + j, by simp [Addr.add], a1, a2, fun i hi => ?_⟩
          obtain ⟨x, hx⟩ := f (j + i) (by omega)
          exact ⟨x, by rw [Nat.add_assoc]; exact hx⟩

/-- A row that is one block of one element. -/
theorem own_one {α : Type} {K : Knd α} {e B g : Nat} {w : World} {ok : Nat → Prop} {x : α} {cs : List Value} (h : w.heap[g]? = some (.cells cs.toArray e (0, 0))) (hB : B ≤ g) (hg : ok g) (hx : K.R w (fun k => ok k ∧ k ≠ g) x cs) : Own K e B w ok (.slice (some ⟨g, 0, none⟩) 1 1) [x] := by
  refine ⟨fun k hk => by simp [Value.ownBlock] at hk; subst hk; exact hg, [cs], rfl, ⟨by simp [K.len hx], .inr ⟨g, 1, cs.toArray, rfl, hB, h, Nat.le_refl _, (by decide), by simp [K.len hx], ?_⟩⟩, fun i y hy => ?_⟩
  · simp only [List.length_singleton, Nat.one_mul, List.flatten_cons, List.flatten_nil, List.append_nil]
    rw [← K.len hx, List.take_length]
  · rcases i with _ | i
    · simp at hy
      subst hy
      exact ⟨cs, rfl, K.mono (fun k hk => ⟨hk.1, fun e => by simp [Value.ownBlock] at e; exact hk.2 e⟩) hx⟩
    · simp at hy

/-- A struct that was handed back, in a new block. -/
def NewF (w W : World) (gB : Nat) (nm : ByteArray) (x : Val) (la : Option Addr) (ln lc : Nat) (fa : Option Addr) (fn fc : Nat) : Prop :=
  w.heap.size ≤ gB ∧ W.heap[gB]? = some (.cells #[.string nm, .int .i64 x.kind, .int .i64 x.int, .string x.text, .slice la ln lc, .slice fa fn fc] 69 (0, 0)) ∧ (KV 5).R W (fun k => w.heap.size ≤ k ∧ k ≠ gB) x [.int .i64 x.kind, .int .i64 x.int, .string x.text, .slice la ln lc, .slice fa fn fc] ∧ Below w.heap.size w W
theorem NewF.a {w w3 : World} {nm : ByteArray} {x : Val} {la : Option Addr} {ln lc : Nat} {fa : Option Addr} {fn fc : Nat} (hx : (KV 5).R w3 (fun k => w.drew.heap.size ≤ k) x [.int .i64 x.kind, .int .i64 x.int, .string x.text, .slice la ln lc, .slice fa fn fc]) (hb : Below w.drew.heap.size w.drew w3) :
    NewF w (w3.alloc (.cells #[.string nm, .int .i64 x.kind, .int .i64 x.int, .string x.text, .slice la ln lc, .slice fa fn fc] 69)) w3.heap.size nm x la ln lc fa fn fc := by
  have h1 := hb.size
  simp at h1
  refine ⟨h1, blk_new rfl, Knd.below ((KV 5).mono (fun k hk => ?_) ((KV 5).bound hx)) (bel_alloc _ _), bel_step (bel_step (bel_draw _) hb) (bel_alloc _ _)⟩
  obtain ⟨h2, h3⟩ := hk
  simp at h2
  exact ⟨h2, by omega⟩
theorem NewF.b {w w3 : World} {kB : Nat} {nm : ByteArray} {x : Val} {la : Option Addr} {ln lc : Nat} {fa : Option Addr} {fn fc : Nat} (hk : kB = w.heap.size) (hx : (KV 5).R w3 (fun k => (w.alloc (.cells #[.string ⟨#[]⟩, .int .i64 0, .int .i64 0, .string ⟨#[]⟩, .slice none 0 0, .slice none 0 0] 69)).drew.heap.size ≤ k) x [.int .i64 x.kind, .int .i64 x.int, .string x.text, .slice la ln lc, .slice fa fn fc])
    (hb : Below (w.alloc (.cells #[.string ⟨#[]⟩, .int .i64 0, .int .i64 0, .string ⟨#[]⟩, .slice none 0 0, .slice none 0 0] 69)).drew.heap.size (w.alloc (.cells #[.string ⟨#[]⟩, .int .i64 0, .int .i64 0, .string ⟨#[]⟩, .slice none 0 0, .slice none 0 0] 69)).drew w3) :
    NewF w ((((((w3.setCell ⟨kB, 0, none⟩ (.string nm)).setCell ⟨kB, 1, none⟩ (.int .i64 x.kind)).setCell ⟨kB, 2, none⟩ (.int .i64 x.int)).setCell ⟨kB, 3, none⟩ (.string x.text)).setCell ⟨kB, 4, none⟩ (.slice la ln lc)).setCell ⟨kB, 5, none⟩ (.slice fa fn fc)) kB nm x la ln lc fa fn fc := by
  have hs := only6 w3 kB (.string nm) (.int .i64 x.kind) (.int .i64 x.int) (.string x.text) (.slice la ln lc) (.slice fa fn fc)
  have b6 := blk_bel (blk_draw (blk_new (w := w) (k := kB) (o := .cells #[.string ⟨#[]⟩, .int .i64 0, .int .i64 0, .string ⟨#[]⟩, .slice none 0 0, .slice none 0 0] 69) hk)) hb
  have hbw : Below w.heap.size w w3 := bel_step (bel_step (bel_alloc _ _) (bel_draw _)) hb
  refine ⟨Nat.le_of_eq hk.symm, by simpa using blk_set (blk_set (blk_set (blk_set (blk_set (blk_set b6 0 (.string nm)) 1 (.int .i64 x.kind)) 2 (.int .i64 x.int)) 3 (.string x.text)) 4 (.slice la ln lc)) 5 (.slice fa fn fc), ?_, bel_only hbw hbw.size hs (fun j he => by omega)⟩
  refine (KV 5).mono (fun k hk => ?_) (Knd.only hx hs (fun j hj he => by simp at hj; omega))
  simp at hk
  exact ⟨by omega, by omega⟩

/-- One of the fields of a filter of bytes. -/
def FieldV (d : Nat) (f : Fld) : Prop := (f.1 ∈ docNames.drop 2 ∧ LeafV f.2) ∨ (f.1 ∈ docNames.take 2 ∧ f.2.kind = 4 ∧ f.2.fields = [] ∧ f.2.list ≠ [] ∧ f.2.list.length ≤ 3 ∧ ∀ y ∈ f.2.list, DocV d y)
theorem doc_mk {d : Nat} {xs : List Fld} (h7 : xs.length ≤ 7) (h : ∀ f ∈ xs, FieldV d f) : DocV (d + 1) (.mk 5 0 ⟨#[]⟩ [] xs) := ⟨rfl, rfl, h7, h⟩
/-- What stands at the end of a round's ways: the new field. -/
def RdP (d : Nat) (wr wx : World) (ok : Nat → Prop) (A : Option Addr) (n c : Nat) (nm : ByteArray) (y : Val) (la2 : Option Addr) (ln2 lc2 : Nat) (fa2 : Option Addr) (fn2 fc2 : Nat) : Prop :=
  Bs wx ok A n c ∧ wx.heap[wr.heap.size]? = some (.cells #[.string nm, .int .i64 y.kind, .int .i64 y.int, .string y.text, .slice la2 ln2 lc2, .slice fa2 fn2 fc2] 69 (0, 0)) ∧ FieldV d (nm, y) ∧ (KV (2 * d + 6)).R wx (fun k => wr.heap.size < k) y [.int .i64 y.kind, .int .i64 y.int, .string y.text, .slice la2 ln2 lc2, .slice fa2 fn2 fc2] ∧ Below wr.heap.size wr wx
theorem rd_set {d : Nat} {wr w3 : World} {ok : Nat → Prop} {A : Option Addr} {n c : Nat} {nm : ByteArray} {y : Val} {la2 : Option Addr} {ln2 lc2 : Nat} {fa2 : Option Addr} {fn2 fc2 : Nat} {z1 z2 z3 z4 z5 : Value} (hok : ∀ k, ok k → k < wr.heap.size)
    (b : w3.heap[wr.heap.size]? = some (.cells #[.string nm, z1, z2, z3, z4, z5] 69 (0, 0))) (hB : Bs w3 ok A n c) (hf : FieldV d (nm, y)) (hy : (KV (2 * d + 6)).R w3 (fun k => wr.heap.size < k) y [.int .i64 y.kind, .int .i64 y.int, .string y.text, .slice la2 ln2 lc2, .slice fa2 fn2 fc2]) (hb : Below wr.heap.size wr w3) :
    RdP d wr (((((w3.setCell ⟨wr.heap.size, 1, none⟩ (.int .i64 y.kind)).setCell ⟨wr.heap.size, 2, none⟩ (.int .i64 y.int)).setCell ⟨wr.heap.size, 3, none⟩ (.string y.text)).setCell ⟨wr.heap.size, 4, none⟩ (.slice la2 ln2 lc2)).setCell ⟨wr.heap.size, 5, none⟩ (.slice fa2 fn2 fc2)) ok A n c nm y la2 ln2 lc2 fa2 fn2 fc2 := by
  have hs := only15 w3 wr.heap.size (.int .i64 y.kind) (.int .i64 y.int) (.string y.text) (.slice la2 ln2 lc2) (.slice fa2 fn2 fc2)
  exact ⟨hB.only hs (fun k hk he => by have := hok k hk; omega), by simpa using blk_set (blk_set (blk_set (blk_set (blk_set b 1 (.int .i64 y.kind)) 2 (.int .i64 y.int)) 3 (.string y.text)) 4 (.slice la2 ln2 lc2)) 5 (.slice fa2 fn2 fc2), hf, Knd.only hy hs (fun j hj he => by omega), bel_only hb hb.size hs (fun j he => by omega)⟩
theorem doc_cases {k : Nat} {s : ByteArray} (h : docNames[k]? = some s) : (k < 2 → s ∈ docNames.take 2) ∧ (2 ≤ k → s ∈ docNames.drop 2) := by
  have hk : k < docNames.length := (List.getElem?_eq_some_iff.1 h).1
  constructor
  · intro h2
    exact List.mem_of_getElem? (i := k) (by rw [List.getElem?_take, if_pos h2]; exact h)
  · intro h2
    exact List.mem_of_getElem? (i := k - 2) (by rw [List.getElem?_drop, show 2 + (k - 2) = k by omega]; exact h)
/-- What stands behind the first condition's being made. -/
def P12 (wr W : World) (gS g16 : Nat) (nm nm1 : ByteArray) (x : Val) (la : Option Addr) (ln lc : Nat) (fa : Option Addr) (fn fc : Nat) : Prop :=
  W.heap[wr.heap.size]? = some (.cells #[.string nm, .int .i64 5, .int .i64 0, .string ⟨#[]⟩, .slice none 0 0, .slice (some ⟨gS, 0, none⟩) 1 1] 69 (0, 0)) ∧
  W.heap[gS]? = some (.cells #[.string nm1, .int .i64 x.kind, .int .i64 x.int, .string x.text, .slice la ln lc, .slice fa fn fc] 69 (0, 0)) ∧ W.heap[g16]? = some (.cells #[.string nm1, .int .i64 x.kind, .int .i64 x.int, .string x.text, .slice la ln lc, .slice fa fn fc] 69 (0, 0)) ∧ wr.heap.size < g16 ∧ g16 < gS ∧
  (KV 5).R W (fun k => wr.heap.size < k ∧ k ≠ g16 ∧ k ≠ gS) x [.int .i64 x.kind, .int .i64 x.int, .string x.text, .slice la ln lc, .slice fa fn fc] ∧ Below wr.heap.size wr W
theorem P12.mk {wr wc : World} {g16 : Nat} {nm nm1 : ByteArray} {x : Val} {la : Option Addr} {ln lc : Nat} {fa : Option Addr} {fn fc : Nat} (h : NewF (wr.alloc (.cells #[.string nm, .int .i64 0, .int .i64 0, .string ⟨#[]⟩, .slice none 0 0, .slice none 0 0] 69)) wc g16 nm1 x la ln lc fa fn fc) :
    P12 wr ((((((wc.setCell ⟨wr.heap.size, 1, none⟩ (.int .i64 5)).setCell ⟨wr.heap.size, 2, none⟩ (.int .i64 0)).setCell ⟨wr.heap.size, 3, none⟩ (.string ⟨#[]⟩)).setCell ⟨wr.heap.size, 4, none⟩ (.slice none 0 0)).setCell ⟨wr.heap.size, 5, none⟩ (.slice (some ⟨wc.heap.size, 0, none⟩) 1 1)).alloc (.cells #[.string nm1, .int .i64 x.kind, .int .i64 x.int, .string x.text, .slice la ln lc, .slice fa fn fc] 69)) wc.heap.size g16 nm nm1 x la ln lc fa fn fc := by
  obtain ⟨h1, h2, h3, h4⟩ := h
  have hs := only15 wc wr.heap.size (.int .i64 5) (.int .i64 0) (.string ⟨#[]⟩) (.slice none 0 0) (.slice (some ⟨wc.heap.size, 0, none⟩) 1 1)
  have hb : Below wr.heap.size wr wc := bel_step (bel_alloc _ _) h4
  have b := blk_bel (blk_new (w := wr) (k := wr.heap.size) (o := .cells #[.string nm, .int .i64 0, .int .i64 0, .string ⟨#[]⟩, .slice none 0 0, .slice none 0 0] 69) rfl) h4
  have hlt := blk_lt h2
  simp at h1
  refine ⟨blk_old (by simpa using blk_set (blk_set (blk_set (blk_set (blk_set b 1 (.int .i64 5)) 2 (.int .i64 0)) 3 (.string ⟨#[]⟩)) 4 (.slice none 0 0)) 5 (.slice (some ⟨wc.heap.size, 0, none⟩) 1 1)), blk_new (by simp), blk_old (blk_only h2 hs (by omega)), by omega, hlt, ?_, (bel_only hb hb.size hs (fun j he => by omega)).alloc (by simp; omega) _⟩
  refine (KV 5).mono (fun k hk => ?_) (Knd.below (Knd.only ((KV 5).bound h3) hs (fun j hj he => by have := hj.1.1; simp at this; omega)) (bel_alloc _ _))
  obtain ⟨⟨a, b⟩, e⟩ := hk
  simp at a
  exact ⟨by omega, b, by omega⟩
theorem P12.below {wr W W' : World} {gS g16 : Nat} {nm nm1 : ByteArray} {x : Val} {la : Option Addr} {ln lc : Nat} {fa : Option Addr} {fn fc : Nat} (h : P12 wr W gS g16 nm nm1 x la ln lc fa fn fc) (hb : Below W.heap.size W W') : P12 wr W' gS g16 nm nm1 x la ln lc fa fn fc := by
  obtain ⟨h1, h2, h3, h4, h5, h6, h7⟩ := h
  exact ⟨blk_bel h1 hb, blk_bel h2 hb, blk_bel h3 hb, h4, h5, Knd.below h6 hb, bel_stepB h7 h7.size hb⟩
theorem bel_after6 {W0 w3 : World} (h : Below W0.drew.heap.size W0.drew w3) (o : Obj) : Below W0.heap.size W0 (w3.alloc o) := (bel_stepB (Below.drew (Below.refl _ W0)) (Nat.le_refl _) h).alloc h.size o
theorem bel_set6 {W0 W : World} (h : Below W0.heap.size W0 W) {k : Nat} (hk : k = W0.heap.size) (v0 v1 v2 v3 v4 v5 : Value) : Below W0.heap.size W0 ((((((W.setCell ⟨k, 0, none⟩ v0).setCell ⟨k, 1, none⟩ v1).setCell ⟨k, 2, none⟩ v2).setCell ⟨k, 3, none⟩ v3).setCell ⟨k, 4, none⟩ v4).setCell ⟨k, 5, none⟩ v5) := by
  subst hk
  exact Below.setCell (Below.setCell (Below.setCell (Below.setCell (Below.setCell (Below.setCell h (Nat.le_refl _) _) (Nat.le_refl _) _) (Nat.le_refl _) _) (Nat.le_refl _) _) (Nat.le_refl _) _) (Nat.le_refl _) _
/-- An object of one field. -/
theorem one_obj {d : Nat} {w : World} {ok : Nat → Prop} {b : Nat} {nm : ByteArray} {y : Val} {la2 : Option Addr} {ln2 lc2 : Nat} {fa2 : Option Addr} {fn2 fc2 : Nat} (hb : w.heap[b]? = some (.cells #[.string nm, .int .i64 y.kind, .int .i64 y.int, .string y.text, .slice la2 ln2 lc2, .slice fa2 fn2 fc2] 69 (0, 0))) (ob : ok b) (hnm : nm.size ≤ maxLen) (hy : (KV (d + 1)).R w ok y [.int .i64 y.kind, .int .i64 y.int, .string y.text, .slice la2 ln2 lc2, .slice fa2 fn2 fc2]) :
    (KV (d + 2)).R w ok (.mk 5 0 ⟨#[]⟩ [] [(nm, y)]) [.int .i64 5, .int .i64 0, .string ⟨#[]⟩, .slice none 0 0, .slice (some ⟨b, 0, none⟩) 1 1] := by
  refine ⟨none, 0, 0, some ⟨b, 0, none⟩, 1, 1, rfl, i64_5, i64_0, empty_small, Row.nil _ _ _, ?_⟩
  refine Row.of_block (K := KFld (KV (d + 1))) [[.string nm, .int .i64 y.kind, .int .i64 y.int, .string y.text, .slice la2 ln2 lc2, .slice fa2 fn2 fc2]] ([(nm, y)] : List Fld) hb rfl ob (show 1 ≤ maxLen by decide) rfl (fun i x hx => ?_)
  obtain rfl : i = 0 := by
    rcases Nat.eq_zero_or_pos i with h | h
    · exact h
    · rw [List.getElem?_eq_none (by simp; omega)] at hx; cases hx
  simp at hx
  subst hx
  exact ⟨_, rfl, _, rfl, hnm, hy⟩
theorem leaf_two {nm1 nm2 : ByteArray} {x x2 : Val} (h1 : nm1 ∈ testsOf ∧ GoodV 5 x) (h2 : nm2 ∈ testsOf ∧ GoodV 5 x2) : LeafV (.mk 5 0 ⟨#[]⟩ [] [(nm1, x), (nm2, x2)]) :=
  .inr ⟨rfl, rfl, (by show 1 ≤ 2; decide), (by show 2 ≤ 2; decide), fun t ht => by
    rcases List.mem_cons.1 ht with rfl | ht
    · exact h1
    · obtain rfl := List.mem_singleton.1 ht
      exact h2⟩
theorem leaf_one {nm1 : ByteArray} {x : Val} (h1 : nm1 ∈ testsOf ∧ GoodV 5 x) : LeafV (.mk 5 0 ⟨#[]⟩ [] [(nm1, x)]) :=
  .inr ⟨rfl, rfl, (by show 1 ≤ 1; decide), (by show 1 ≤ 2; decide), fun t ht => by
    obtain rfl := List.mem_singleton.1 ht
    exact h1⟩
theorem tst_len {s : ByteArray} (h : s ∈ testsOf) : s.size ≤ maxLen := by have := tstn_small h; unfold maxLen; omega
/-- The new field has one condition. -/
theorem rd_one {d : Nat} {wr wc : World} {ok : Nat → Prop} {A : Option Addr} {n c gS g16 : Nat} {nm nm1 : ByteArray} {x : Val} {la : Option Addr} {ln lc : Nat} {fa : Option Addr} {fn fc : Nat} (hB : Bs wc ok A n c) (hs : nm ∈ docNames.drop 2) (hG : nm1 ∈ testsOf ∧ GoodV 5 x)
    (hP : P12 wr wc gS g16 nm nm1 x la ln lc fa fn fc) : RdP d wr wc ok A n c nm (.mk 5 0 ⟨#[]⟩ [] [(nm1, x)]) none 0 0 (some ⟨gS, 0, none⟩) 1 1 := by
  obtain ⟨h1, h2, h3, h4, h5, h6, h7⟩ := hP
  exact ⟨hB, h1, .inl ⟨hs, leaf_one hG⟩, one_obj (d := 2 * d + 4) h2 (by omega) (tst_len hG.1) ((KV (2 * d + 5)).mono (fun k hk => hk.1) (KV_le (by omega) _ _ _ _ h6)), h7⟩
end Go.Proofs.YtlomieopppndeaaDoor
