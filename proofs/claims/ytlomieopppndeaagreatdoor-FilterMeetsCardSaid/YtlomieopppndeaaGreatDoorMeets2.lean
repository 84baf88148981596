/- roundelaylaw16.meets at a path. -/
import Derived.Test.YtlomieopppndeaaGreatDoorMeets1
import Derived.Test.YtlomieopppndeaaGreatDoorWrongDoc
import Derived.Test.YtlomieopppndeaaGreatDoorMeetLaw
import Derived.Deep.DeepCutAuto
namespace Go.Proofs.YtlomieopppndeaaGreatDoor
open Go.RowKit

theorem bel_set5k {W0 W : World} (h : Below W0.heap.size W0 W) {k : Nat} (hk : W0.heap.size ≤ k) (v0 v1 v2 v3 v4 : Value) : Below W0.heap.size W0 (((((W.setCell ⟨k, 0, none⟩ v0).setCell ⟨k, 1, none⟩ v1).setCell ⟨k, 2, none⟩ v2).setCell ⟨k, 3, none⟩ v3).setCell ⟨k, 4, none⟩ v4) :=
  Below.setCell (Below.setCell (Below.setCell (Below.setCell (Below.setCell h hk _) hk _) hk _) hk _) hk _
theorem bel_two {W0 w5 w6 : World} (h1 : Below W0.drew.heap.size W0.drew w5) (h2 : Below w5.heap.size w5 w6) (o : Obj) : Below W0.heap.size W0 (w6.alloc o) :=
  ((bel_stepB (bel_stepB (Below.drew (Below.refl _ W0)) (Nat.le_refl _) h1) h1.size h2)).alloc (Nat.le_trans h1.size h2.size) o
theorem R_lt' {α : Type} {K : Knd α} {w : World} {ok : Nat → Prop} {x : α} {cs : List Value} (h : K.R w ok x cs) : K.R w (fun k => k < w.heap.size) x cs := K.mono (fun _ hk => hk.2) (K.bound h)
theorem row_ok {α : Type} {K : Knd α} {w : World} {ok : Nat → Prop} {g o n c : Nat} {xs : List α} (h : Row K w ok (some ⟨g, o, none⟩) n c xs) : ok g ∧ g < w.heap.size := by
  rcases h with ⟨h, _⟩ | ⟨g', o', h, _, _, _, h5, h6, _⟩
  · cases h
  · injection h with h
    injection h with h1 _ _
    subst h1
    exact ⟨h5, h6⟩
theorem row_at {w : World} {ok ok' : Nat → Prop} {g o n c : Nat} {l : List ByteArray} (h : Row KStr w ok (some ⟨g, o, none⟩) n c l) (hg : ok' g) : Row KStr w ok' (some ⟨g, o, none⟩) n c l := by
  rcases h with h | ⟨g', o', h, h2, h3, h4, _, h6, h7⟩
  · exact .inl h
  · have h' := h
    injection h' with h'
    injection h' with h1 _ _
    subst h1
    exact .inr ⟨g, o', h, h2, h3, h4, hg, h6, h7⟩
theorem leaf_split {y : Val} {n : Nat} (hl : LeafV y) (hlen : y.fields.length = n) : (isTests y = false ∧ ((¬ y.kind = 5 ∧ (y.kind == 5) = false) ∨ ((y.kind = 5 ∧ (y.kind == 5) = true) ∧ n = 0) ∨ ((y.kind = 5 ∧ (y.kind == 5) = true) ∧ 0 < n ∧ ∀ f ∈ y.fields, f.1 ∈ namesOf))) ∨
    ((y.kind = 5 ∧ (y.kind == 5) = true) ∧ 0 < n ∧ isTests y = true ∧ ∀ t ∈ y.fields, TstV t) := by
  rcases hl with hg | ⟨k5, _, n1, _, ha⟩
  · refine .inl ⟨good_tests hg, ?_⟩
    by_cases hk : y.kind = 5
    · rcases Nat.eq_zero_or_pos n with h | h
      · exact .inr (.inl ⟨⟨hk, by simpa using hk⟩, h⟩)
      · exact .inr (.inr ⟨⟨hk, by simpa using hk⟩, h, fun f hf => hg.2.2.2.2.2.2.1.subset (List.mem_map_of_mem (f := Prod.fst) hf)⟩)
    · exact .inl ⟨hk, by simpa using hk⟩
  · exact .inr ⟨⟨k5, by simpa using k5⟩, by omega, leaf_tests_true k5 n1 ha, ha⟩
theorem names8 {s : ByteArray} (h : s ∈ testsOf) : (s = ⟨#[36, 101, 113]⟩ ∧ namedI s = 2) ∨ (s = ⟨#[36, 110, 101]⟩ ∧ namedI s = 3) ∨ (s = ⟨#[36, 103, 116]⟩ ∧ namedI s = 4) ∨ (s = ⟨#[36, 103, 116, 101]⟩ ∧ namedI s = 5) ∨
    (s = ⟨#[36, 108, 116]⟩ ∧ namedI s = 6) ∨ (s = ⟨#[36, 108, 116, 101]⟩ ∧ namedI s = 7) ∨ (s = ⟨#[36, 105, 110]⟩ ∧ namedI s = 8) ∨ (s = ⟨#[36, 101, 120, 105, 115, 116, 115]⟩ ∧ namedI s = 9) := by
  simp only [testsOf, List.mem_cons, List.not_mem_nil, or_false] at h
  rcases h with rfl | rfl | rfl | rfl | rfl | rfl | rfl | rfl <;> decide +kernel
theorem take_all {α : Type} {xs : List α} {k : Nat} {x : α} (p : α → Bool) (hx : xs[k]? = some x) : (xs.take (k + 1)).all p = ((xs.take k).all p && p x) := by
  have hk : k < xs.length := (List.getElem?_eq_some_iff.1 hx).1
  rw [List.getElem?_eq_getElem hk] at hx
  injection hx with hx
  rw [List.take_succ_eq_append_getElem hk, List.all_append, hx]
  simp
theorem all_of_not {α : Type} {xs : List α} {k : Nat} {x : α} (p : α → Bool) (hx : xs[k]? = some x) (h : p x = false) : xs.all p = false := List.all_eq_false.2 ⟨x, List.mem_of_getElem? hx, by rw [h]; decide⟩
theorem sz_le {W0 w5 : World} (h1 : Below W0.drew.heap.size W0.drew w5) : W0.heap.size ≤ w5.heap.size := h1.size
set_option maxRecDepth 100000 in
set_option maxHeartbeats 4000000 in
theorem leaf_calls (D : Nat) (nm : ByteArray) (y : Val) (la2 : Option Addr) (ln2 lc2 : Nat) (fa2 : Option Addr) (fn2 fc2 : Nat) (doc : Val) (la3 : Option Addr) (ln3 lc3 : Nat) (fa3 : Option Addr) (fn3 fc3 : Nat) (w : World) (N : Nat) (hF : Few N doc) (hn : nm ∈ docNames.drop 2) (hx : (KV (D + 3)).R w (fun _ => True) doc [.int .i64 doc.kind, .int .i64 doc.int, .string doc.text, .slice la3 ln3 lc3, .slice fa3 fn3 fc3]) (hl : LeafV y) (hy : (KV (D + 3)).R w (fun _ => True) y [.int .i64 y.kind, .int .i64 y.int, .string y.text, .slice la2 ln2 lc2, .slice fa2 fn2 fc2]) :
    Calls Tryz.prog 60 #[.agg #[.string nm, .int .i64 y.kind, .int .i64 y.int, .string y.text, .slice la2 ln2 lc2, .slice fa2 fn2 fc2], .agg #[.int .i64 doc.kind, .int .i64 doc.int, .string doc.text, .slice la3 ln3 lc3, .slice fa3 fn3 fc3]] w fun e w' => e = .returned (.bool (leafD (D + 3) (doc.find (partsOf nm)) y)) ∧ Below w.heap.size w w' := by
  obtain ⟨res, hres⟩ : ∃ res : Bool, res = (leafD (D + 3) (doc.find (partsOf nm)) y) := ⟨_, rfl⟩
  rw [← hres]
  have HRES := Ap.of hres
  clear hres
  obtain ⟨c, hix, hc, h1, h2, h0⟩ := idx_docs hn
  have p1 : ¬ nm.toList = [36, 97, 110, 100] := by simpa using h1
  have p2 : ¬ nm.toList = [36, 111, 114] := by simpa using h2
  have hb0 := bel_step (bel_alloc w (.cells #[.string nm, .int .i64 y.kind, .int .i64 y.int, .string y.text, .slice la2 ln2 lc2, .slice fa2 fn2 fc2] 37)) (bel_alloc _ (.cells #[.int .i64 doc.kind, .int .i64 doc.int, .string doc.text, .slice la3 ln3 lc3, .slice fa3 fn3 fc3] 28))
  have hbx := blk_old (o' := (.cells #[.int .i64 doc.kind, .int .i64 doc.int, .string doc.text, .slice la3 ln3 lc3, .slice fa3 fn3 fc3] 28)) (blk_new (w := w) (k := w.heap.size) (o := (.cells #[.string nm, .int .i64 y.kind, .int .i64 y.int, .string y.text, .slice la2 ln2 lc2, .slice fa2 fn2 fc2] 37)) rfl)
  have hbd := blk_new (w := w.alloc (.cells #[.string nm, .int .i64 y.kind, .int .i64 y.int, .string y.text, .slice la2 ln2 lc2, .slice fa2 fn2 fc2] 37)) (k := w.heap.size + 1) (o := (.cells #[.int .i64 doc.kind, .int .i64 doc.int, .string doc.text, .slice la3 ln3 lc3, .slice fa3 fn3 fc3] 28)) (by simp)
  have hks : ∀ W, Below ((w.alloc (.cells #[.string nm, .int .i64 y.kind, .int .i64 y.int, .string y.text, .slice la2 ln2 lc2, .slice fa2 fn2 fc2] 37)).alloc (.cells #[.int .i64 doc.kind, .int .i64 doc.int, .string doc.text, .slice la3 ln3 lc3, .slice fa3 fn3 fc3] 28)).heap.size ((w.alloc (.cells #[.string nm, .int .i64 y.kind, .int .i64 y.int, .string y.text, .slice la2 ln2 lc2, .slice fa2 fn2 fc2] 37)).alloc (.cells #[.int .i64 doc.kind, .int .i64 doc.int, .string doc.text, .slice la3 ln3 lc3, .slice fa3 fn3 fc3] 28)) W → (Below ((w.alloc (.cells #[.string nm, .int .i64 y.kind, .int .i64 y.int, .string y.text, .slice la2 ln2 lc2, .slice fa2 fn2 fc2] 37)).alloc (.cells #[.int .i64 doc.kind, .int .i64 doc.int, .string doc.text, .slice la3 ln3 lc3, .slice fa3 fn3 fc3] 28)).heap.size ((w.alloc (.cells #[.string nm, .int .i64 y.kind, .int .i64 y.int, .string y.text, .slice la2 ln2 lc2, .slice fa2 fn2 fc2] 37)).alloc (.cells #[.int .i64 doc.kind, .int .i64 doc.int, .string doc.text, .slice la3 ln3 lc3, .slice fa3 fn3 fc3] 28)) W ∧ W.cell? ⟨w.heap.size, 0, none⟩ = some (.string nm) ∧ W.cell? ⟨w.heap.size + 1, 0, none⟩ = some (.int .i64 doc.kind) ∧ W.cell? ⟨w.heap.size + 1, 1, none⟩ = some (.int .i64 doc.int) ∧ W.cell? ⟨w.heap.size + 1, 2, none⟩ = some (.string doc.text) ∧ W.cell? ⟨w.heap.size + 1, 3, none⟩ = some (.slice la3 ln3 lc3) ∧ W.cell? ⟨w.heap.size + 1, 4, none⟩ = some (.slice fa3 fn3 fc3)) := fun W ho => by
    have e1 := blk_cells (blk_bel hbx ho)
    have e2 := blk_cells (blk_bel hbd ho)
    exact ⟨ho, e1 0, e2 0, e2 1, e2 2, e2 3, e2 4⟩
  have KS := Ap.of hks
  have HNK := Ap.of (show ((w.alloc (.cells #[.string nm, .int .i64 y.kind, .int .i64 y.int, .string y.text, .slice la2 ln2 lc2, .slice fa2 fn2 fc2] 37)).alloc (.cells #[.int .i64 doc.kind, .int .i64 doc.int, .string doc.text, .slice la3 ln3 lc3, .slice fa3 fn3 fc3] 28)).heap.size ≤ w.heap.size + 1 + 1 by simp)
  have HZ0 := Ap.of (blk_draw (blk_new (w := ((w.alloc (.cells #[.string nm, .int .i64 y.kind, .int .i64 y.int, .string y.text, .slice la2 ln2 lc2, .slice fa2 fn2 fc2] 37)).alloc (.cells #[.int .i64 doc.kind, .int .i64 doc.int, .string doc.text, .slice la3 ln3 lc3, .slice fa3 fn3 fc3] 28))) (k := w.heap.size + 1 + 1) (o := .cells #[.int .i64 0, .int .i64 0, .string ⟨#[]⟩, .slice none 0 0, .slice none 0 0] 28) (by simp)))
  have HPT := Ap.of (fun W => parts_calls nm W hn)
  have HFD := Ap.of (fun W (hW : Below ((w.alloc (.cells #[.string nm, .int .i64 y.kind, .int .i64 y.int, .string y.text, .slice la2 ln2 lc2, .slice fa2 fn2 fc2] 37)).alloc (.cells #[.int .i64 doc.kind, .int .i64 doc.int, .string doc.text, .slice la3 ln3 lc3, .slice fa3 fn3 fc3] 28)).heap.size ((w.alloc (.cells #[.string nm, .int .i64 y.kind, .int .i64 y.int, .string y.text, .slice la2 ln2 lc2, .slice fa2 fn2 fc2] 37)).alloc (.cells #[.int .i64 doc.kind, .int .i64 doc.int, .string doc.text, .slice la3 ln3 lc3, .slice fa3 fn3 fc3] 28)) W) g n (hr : Row KStr W (fun _ => True) (some ⟨g, 0, none⟩) n n (partsOf nm)) => lfind_calls (D + 1) doc la3 ln3 lc3 fa3 fn3 fc3 (some ⟨g, 0, none⟩) n n (partsOf nm) (fun j => j < w.heap.size ∨ j = g) W hF (row_at hr (.inr rfl)) ((KV (D + 3)).mono (fun j hj => .inl hj) (Knd.below (R_lt' hx) (bel_step hb0 hW))))
  have HBX := Ap.of hbx
  have HB0 := Ap.of hb0
  have HY := Ap.of hy
  have hf := (KV_parts hy).2.2.2.2
  have hlen := hf.length
  have hk := leaf_split hl hlen
  have HFY := Ap.of hf
  have HLN := Ap.of hlen
  clear hks hbx hbd hb0 hx hF hn hy hf hlen hl
  go_enter Tryz.func60, Tryz.ntmps60
  go_upto_region 10 with fail
  go_cut [8, 9] (fun v8 v9 wx => ∃ (g8 : Nat) (z : Val) (la : Option Addr) (ln lc : Nat) (fa : Option Addr) (fn fc : Nat), v8 = .pointer (some ⟨g8, 0, none⟩) ∧ v9 = .bool (doc.find (partsOf nm)).isSome ∧ Ap (z = (doc.find (partsOf nm)).getD Val.zero) ∧ Ap (wx.heap[g8]? = some (.cells #[.int .i64 z.kind, .int .i64 z.int, .string z.text, .slice la ln lc, .slice fa fn fc] 28 (0, 0))) ∧ Ap ((KV (D + 3)).R wx (fun _ => True) z [.int .i64 z.kind, .int .i64 z.int, .string z.text, .slice la ln lc, .slice fa fn fc]) ∧ Ap (Below ((w.alloc (.cells #[.string nm, .int .i64 y.kind, .int .i64 y.int, .string y.text, .slice la2 ln2 lc2, .slice fa2 fn2 fc2] 37)).alloc (.cells #[.int .i64 doc.kind, .int .i64 doc.int, .string doc.text, .slice la3 ln3 lc3, .slice fa3 fn3 fc3] 28)).heap.size ((w.alloc (.cells #[.string nm, .int .i64 y.kind, .int .i64 y.int, .string y.text, .slice la2 ln2 lc2, .slice fa2 fn2 fc2] 37)).alloc (.cells #[.int .i64 doc.kind, .int .i64 doc.int, .string doc.text, .slice la3 ln3 lc3, .slice fa3 fn3 fc3] 28)) wx))
  case first =>
    go_region_held3 (fun W => Below ((w.alloc (.cells #[.string nm, .int .i64 y.kind, .int .i64 y.int, .string y.text, .slice la2 ln2 lc2, .slice fa2 fn2 fc2] 37)).alloc (.cells #[.int .i64 doc.kind, .int .i64 doc.int, .string doc.text, .slice la3 ln3 lc3, .slice fa3 fn3 fc3] 28)).heap.size ((w.alloc (.cells #[.string nm, .int .i64 y.kind, .int .i64 y.int, .string y.text, .slice la2 ln2 lc2, .slice fa2 fn2 fc2] 37)).alloc (.cells #[.int .i64 doc.kind, .int .i64 doc.int, .string doc.text, .slice la3 ln3 lc3, .slice fa3 fn3 fc3] 28)) W ∧ W.cell? ⟨w.heap.size, 0, none⟩ = some (.string nm) ∧ W.cell? ⟨w.heap.size + 1, 0, none⟩ = some (.int .i64 doc.kind) ∧ W.cell? ⟨w.heap.size + 1, 1, none⟩ = some (.int .i64 doc.int) ∧ W.cell? ⟨w.heap.size + 1, 2, none⟩ = some (.string doc.text) ∧ W.cell? ⟨w.heap.size + 1, 3, none⟩ = some (.slice la3 ln3 lc3) ∧ W.cell? ⟨w.heap.size + 1, 4, none⟩ = some (.slice fa3 fn3 fc3))
      (first
        | with_reducible assumption
        | (with_reducible (refine KS.out _ ?_; exact Below.refl _ _))
        | (with_reducible (refine KS.out _ ?_; apply Below.drew; exact Below.refl _ _))
        | (with_reducible (refine KS.out _ ?_; apply Below.drew; apply Below.alloc; exact Below.refl _ _; exact Nat.le_refl _))
        | (with_reducible (refine KS.out _ ?_; apply bel_stepB _ _ hb3; exact And.left (by assumption); exact (Below.size (And.left (by assumption)))))
        | (with_reducible (refine KS.out _ ?_; apply bel_stepB _ _ hbp; exact And.left (by assumption); exact (Below.size (And.left (by assumption)))))
        | (with_reducible (refine KS.out _ ?_; apply Below.alloc; exact (And.left (by assumption)); exact (Below.size (And.left (by assumption)))))
        | (with_reducible (refine KS.out _ ?_; exact bel_two hbp hb3 _))
        | (refine KS.out _ ?_; (with_reducible refine bel_set5k ?_ HNK.out _ _ _ _ _); (with_reducible exact And.left (by assumption)))
        | (refine KS.out _ ?_; (with_reducible refine bel_set5k ?_ (sz_le hbp) _ _ _ _ _); (with_reducible exact And.left (by assumption))))
      (first
        | (go_at_call 92; (with_reducible refine (HPT.out _).mono ?_); rintro e w5 ⟨g, n, rfl, hrow, hbp⟩; (have HGO := Ap.of (row_ok hrow)); (have HROW := Ap.of (hrow.mono (ok' := fun _ => True) (fun _ _ => trivial))); (first | (with_reducible have b8p := Ap.of (blk_bel HZ0.out hbp)) | skip); (have HZ5 := Ap.of (blk_new (w := w5) (k := w5.heap.size) (o := .cells #[.int .i64 0, .int .i64 0, .string ⟨#[]⟩, .slice none 0 0, .slice none 0 0] 28) rfl)); clear hrow)
        | (go_at_call 19; refine (HFD.out _ (And.left (by assumption)) g n (by first | exact HROW.out | exact HROW.out.below (bel_alloc _ _))).mono ?_; rintro e w6 ⟨z, la, ln, lc, fa, fn, fc, rfl, hz, hrz, hb3⟩; (have HZ := Ap.of hz); (have HRZ := Ap.of hrz); (first | ((with_reducible have b8 := blk_bel b8p.out hb3); have c8 := blk_cells b8; have f8 := blk_free b8; have l8 := blk_lt b8) | ((with_reducible have b8 := blk_bel HZ5.out hb3); have c8 := blk_cells b8; have f8 := blk_free b8; have l8 := blk_lt b8) | skip); clear hz hrz))
    all_goals
      have HBL := Ap.of (And.left (by assumption) : Below ((w.alloc (.cells #[.string nm, .int .i64 y.kind, .int .i64 y.int, .string y.text, .slice la2 ln2 lc2, .slice fa2 fn2 fc2] 37)).alloc (.cells #[.int .i64 doc.kind, .int .i64 doc.int, .string doc.text, .slice la3 ln3 lc3, .slice fa3 fn3 fc3] 28)).heap.size ((w.alloc (.cells #[.string nm, .int .i64 y.kind, .int .i64 y.int, .string y.text, .slice la2 ln2 lc2, .slice fa2 fn2 fc2] 37)).alloc (.cells #[.int .i64 doc.kind, .int .i64 doc.int, .string doc.text, .slice la3 ln3 lc3, .slice fa3 fn3 fc3] 28)) _)
      go_wp2_with fail
      go_meet
      first
      | (have _t := b8p
         have hz5 := only5 w6 (w.heap.size + 1 + 1) (.int .i64 z.kind) (.int .i64 z.int) (.string z.text) (.slice la ln lc) (.slice fa fn fc)
         have hne : ∀ j, (j < w.heap.size ∨ j = g) → ¬ j = w.heap.size + 1 + 1 := by
           intro j hj he
           have h1 := HGO.out
           have h3 := hbp.size
           simp at h1 h3
           omega
         have hzb := blk_set5 b8 (.int .i64 z.kind) (.int .i64 z.int) (.string z.text) (.slice la ln lc) (.slice fa fn fc)
         have hzr := (KV (D + 3)).mono (ok' := fun _ => True) (fun _ _ => trivial) (Knd.only HRZ.out hz5 hne)
         with_reducible exact ⟨_, z, la, ln, lc, fa, fn, fc, rfl, rfl, HZ, Ap.of hzb, Ap.of hzr, HBL⟩)
      | (have _t := c8
         have hz5 := only5 w6 (w5.heap.size) (.int .i64 z.kind) (.int .i64 z.int) (.string z.text) (.slice la ln lc) (.slice fa fn fc)
         have hne : ∀ j, (j < w.heap.size ∨ j = g) → ¬ j = w5.heap.size := by
           intro j hj he
           have h1 := HGO.out
           have h3 := hbp.size
           simp at h1 h3
           omega
         have hzb := blk_set5 b8 (.int .i64 z.kind) (.int .i64 z.int) (.string z.text) (.slice la ln lc) (.slice fa fn fc)
         have hzr := (KV (D + 3)).mono (ok' := fun _ => True) (fun _ _ => trivial) (Knd.only HRZ.out hz5 hne)
         with_reducible exact ⟨_, z, la, ln, lc, fa, fn, fc, rfl, rfl, HZ, Ap.of hzb, Ap.of hzr, HBL⟩)
      | (have hzr := (KV (D + 3)).mono (ok' := fun _ => True) (fun _ _ => trivial) (Knd.below HRZ.out (bel_alloc w6 (.cells #[.int .i64 z.kind, .int .i64 z.int, .string z.text, .slice la ln lc, .slice fa fn fc] 28)))
         with_reducible exact ⟨_, z, la, ln, lc, fa, fn, fc, rfl, rfl, HZ, Ap.of (blk_new rfl), Ap.of hzr, HBL⟩)
  case rest =>
    obtain ⟨g8, z, la, ln, lc, fa, fn, fc, rfl, rfl, HZ, BZ, HRZ, HBW⟩ := hcut
    have HBF := Ap.of (blk_bel HBX.out HBW.out)
    have cf := blk_cells HBF.out
    have lf := blk_lt HBF.out
    have cz := blk_cells BZ.out
    have lz := blk_lt BZ.out
    have HWC := Ap.of (bel_step HB0.out HBW.out)
    have HCM := Ap.of (fun W (hW : Below wc.heap.size wc W) (u : Val) la5 ln5 lc5 fa5 fn5 fc5 (hu : (KV (D + 3)).R W (fun _ => True) u [.int .i64 u.kind, .int .i64 u.int, .string u.text, .slice la5 ln5 lc5, .slice fa5 fn5 fc5]) => lcmp_calls (D + 3) z u la ln lc fa fn fc la5 ln5 lc5 fa5 fn5 fc5 (fun _ => True) W (Knd.below HRZ.out hW) hu)
    rcases hk with ⟨hif, hk⟩ | ⟨⟨hk1, hk2⟩, hpos, hit, ht⟩
    · have HRE2 := Ap.of (show res = ((doc.find (partsOf nm)).isSome && (cmpD (D + 3) z y == 0)) by rw [HRES.out, HZ.out]; exact leaf_false hif)
      have HCY := Ap.of (HCM.out wc (Below.refl _ _) y la2 ln2 lc2 fa2 fn2 fc2 (Knd.below HY.out HWC.out))
      clear HRES HZ HCM hif
      generalize cmpD (D + 3) z y = q at *
      generalize (doc.find (partsOf nm)).isSome = b at *
      generalize y.kind = yk at *
      generalize y.int = yi at *
      generalize y.text = yt at *
      rcases hk with ⟨hk1, hk2⟩ | ⟨⟨hk1, hk2⟩, rfl⟩ | ⟨⟨hk1, hk2⟩, hpos, hnm⟩
      · cases b with
        | false =>
          go_wp2_with fail
          go_ret
          exact ⟨by rw [HRE2.out]; rfl, HWC.out⟩
        | true =>
          go_wp2_with fail
          (with_reducible refine HCY.out.mono ?_)
          rintro e w7 ⟨rfl, hb7⟩
          have HB7 := Ap.of (bel_step HWC.out hb7)
          clear hb7
          go_wp2_with fail
          go_ret
          exact ⟨by rw [HRE2.out]; rfl, HB7.out⟩
      · subst hk1
        cases b with
        | false =>
          go_wp2_with fail
          go_ret
          exact ⟨by rw [HRE2.out]; rfl, HWC.out⟩
        | true =>
          go_wp2_with fail
          (with_reducible refine HCY.out.mono ?_)
          rintro e w7 ⟨rfl, hb7⟩
          have HB7 := Ap.of (bel_step HWC.out hb7)
          clear hb7
          go_wp2_with fail
          go_ret
          exact ⟨by rw [HRE2.out]; rfl, HB7.out⟩
      · subst hk1
        obtain ⟨g2, off, n0, zz, l9, n9, c9, f9, m9, d9, rfl, hx0, _, _, e0, _⟩ := fld_cells (d := D + 1) (HFY.out.below HWC.out) hpos
        rw [Nat.zero_mul, Nat.add_zero] at e0
        obtain ⟨c0', hix0, hc0⟩ := idx_names (hnm _ (List.mem_of_getElem? hx0))
        have pc0 : ¬ c0' = 36 := by simpa using hc0
        have hp' : (0 : Int) < (fn2 : Int) := by omega
        have hpn : (fn2 == 0) = false := by simp; omega
        have hpi : ((fn2 : Int) == 0) = false := by simp; omega
        have le0 := World.block_lt_of_cell? _ _ e0
        clear hx0 hnm
        cases b with
        | false =>
          go_wp2_with fail
          go_ret
          exact ⟨by rw [HRE2.out]; rfl, HWC.out⟩
        | true =>
          go_wp2_with fail
          (with_reducible refine HCY.out.mono ?_)
          rintro e w7 ⟨rfl, hb7⟩
          have HB7 := Ap.of (bel_step HWC.out hb7)
          clear hb7
          go_wp2_with fail
          go_ret
          exact ⟨by rw [HRE2.out]; rfl, HB7.out⟩
    · have HRE2 := Ap.of (show res = y.fields.all (fun t => condO (D + 3) (doc.find (partsOf nm)) (namedI t.1) t.2) by rw [HRES.out]; unfold leafD; rw [if_pos hit])
      have HT := Ap.of ht
      obtain ⟨o, ho⟩ : ∃ o, o = doc.find (partsOf nm) := ⟨_, rfl⟩
      rw [← ho] at HRE2 HZ
      have HO : (o = none ∧ o.isSome = false) ∨ (o = some z ∧ o.isSome = true) := by
        cases o with
        | none => exact .inl ⟨rfl, rfl⟩
        | some x => exact .inr ⟨by rw [HZ.out]; rfl, rfl⟩
      rw [← ho]
      obtain ⟨p, hp⟩ : ∃ p : Fld → Bool, p = fun t => condO (D + 3) o (namedI t.1) t.2 := ⟨_, rfl⟩
      rw [← hp] at HRE2
      have HPP := Ap.of hp
      have HOO := Ap.of HO
      have HP := Ap.of hpos
      have hcf := HFY.out.cap
      obtain ⟨g20, off0, n0, zz, l9, n9, c9, f9, m9, d9, hA, hx0, _, _, e0, _⟩ := fld_cells (d := D + 1) (HFY.out.below HWC.out) hpos
      subst hA
      rw [Nat.zero_mul, Nat.add_zero] at e0
      have hix0 := idx_tests (HT.out _ (List.mem_of_getElem? hx0)).1
      have hp' : (0 : Int) < (fn2 : Int) := by omega
      have hpn : (fn2 == 0) = false := by simp; omega
      have hpi : ((fn2 : Int) == 0) = false := by simp; omega
      have le0 := World.block_lt_of_cell? _ _ e0
      clear hx0 ht hit HRES HZ HO ho hp hpos HPT HFD HZ0 HNK KS
      generalize o.isSome = b at *
      generalize y.fields = xs at *
      generalize y.list = yl at *
      go_wp2_with fail
      clear e0 le0 hix0 hp' hpn hpi
      go_loopw [95] (fun vi wr => ∃ (k : Nat), k ≤ fn2 ∧ vi = .int .i64 k ∧ Ap ((xs.take k).all p = true) ∧ Ap (Below wc.heap.size wc wr)) (fun vi _ => fn2 - (intOf vi).toNat)
      case atStart => exact ⟨0, Nat.zero_le _, rfl, Ap.of (by simp), Ap.of (Below.refl _ _)⟩
      case round =>
        obtain ⟨k, hk, rfl, HM, BL⟩ := hrel
        by_cases hlt : k < fn2
        · obtain ⟨g2, off, n1, t, la4, ln4, lc4, fa4, fn4, fc4, hA, hx, hnm, hr, c0, c1, c2, c3, c4, c5⟩ := fld_cells (d := D + 1) (HFY.out.below (bel_step HWC.out BL.out)) hlt
          injection hA with hA
          injection hA with hA1 hA2 _
          subst hA1 hA2
          have HX := Ap.of hx
          have HTV := Ap.of (HT.out _ (List.mem_of_getElem? hx)).1
          have HLT := Ap.of hlt
          have hlt' : (k : Int) < (fn2 : Int) := by omega
          have lc0 := World.block_lt_of_cell? _ _ c0
          have BZR := Ap.of (blk_bel BZ.out BL.out)
          have czr := blk_cells BZR.out
          have lzr := blk_lt BZR.out
          have hba := bel_alloc wr (.cells #[.string n1, .int .i64 t.kind, .int .i64 t.int, .string t.text, .slice la4 ln4 lc4, .slice fa4 fn4 fc4] 37)
          have HT1 := Ap.of (Knd.below hr hba)
          have hcy := HCM.out (wr.alloc (.cells #[.string n1, .int .i64 t.kind, .int .i64 t.int, .string t.text, .slice la4 ln4 lc4, .slice fa4 fn4 fc4] 37)) (bel_step BL.out hba) t la4 ln4 lc4 fa4 fn4 fc4 (KV_deeper _ _ _ _ _ HT1.out)
          have HCY := Ap.of hcy
          have BT := Ap.of (blk_new (w := wr) (k := wr.heap.size) (o := (.cells #[.string n1, .int .i64 t.kind, .int .i64 t.int, .string t.text, .slice la4 ln4 lc4, .slice fa4 fn4 fc4] 37)) rfl)
          have BZ1 := Ap.of (blk_bel BZR.out hba)
          have HBA := Ap.of (bel_step BL.out hba)
          clear hx hnm hr hcy hba cz lz
          go_wp2_with fail
          (with_reducible refine HCY.out.mono ?_)
          rintro e w3 ⟨rfl, hb⟩
          have BT3 := Ap.of (blk_bel BT.out hb)
          have BZ3 := Ap.of (blk_bel BZ1.out hb)
          have HL3 := Ap.of (KV_parts (Knd.below HT1.out hb)).2.2.2.1
          have hll := HL3.out.length
          have hlc := HL3.out.cap
          have HLL := Ap.of hll
          have HB3 := Ap.of (bel_step HBA.out hb)
          have ct := blk_cells BT3.out
          have lt3 := blk_lt BT3.out
          clear hb HCY BT BZ1 HBA BZR czr lzr c0 c1 c2 c3 c4 c5 lc0 hll
          have HQ8 := Ap.of (names8 HTV.out)
          have HPX := Ap.of (show p (n1, t) = condO (D + 3) o (namedI n1) t by rw [HPP.out])
          generalize hkc : cmpD (D + 3) z t = kc at *
          have HKC := Ap.of hkc
          clear hkc
          go_wp2_with fail
          go_loopw [13, 107] (fun v13 v107 wq => ∃ (j : Nat) (q : Bool), j ≤ ln4 ∧ v107 = .int .i64 j ∧ v13 = .bool q ∧ Ap (q = (t.list.take j).any (fun u => cmpD (D + 3) z u == 0)) ∧ Ap (Below w3.heap.size w3 wq)) (fun _ v107 _ => ln4 - (intOf v107).toNat)
          case atStart => exact ⟨0, false, Nat.zero_le _, rfl, rfl, Ap.of rfl, Ap.of (Below.refl _ _)⟩
          case round =>
            obtain ⟨j, q, hj, rfl, rfl, HQ, BQ⟩ := hrel
            by_cases hjt : j < ln4
            · obtain ⟨g5, off5, u, la5, ln5, lc5, fa5, fn5, fc5, rfl, hxu, hru, d0, d1, d2, d3, d4⟩ := val_cells (d := D) (Row.below HL3.out BQ.out) hjt
              have HJT := Ap.of hjt
              have hjt' : (j : Int) < (ln4 : Int) := by omega
              have ld0 := World.block_lt_of_cell? _ _ d0
              have BZQ := Ap.of (blk_bel BZ3.out BQ.out)
              have czq := blk_cells BZQ.out
              have lzq := blk_lt BZQ.out
              have hba := bel_alloc wr (.cells #[.int .i64 u.kind, .int .i64 u.int, .string u.text, .slice la5 ln5 lc5, .slice fa5 fn5 fc5] 28)
              have HCU := Ap.of (HCM.out (wr.alloc (.cells #[.int .i64 u.kind, .int .i64 u.int, .string u.text, .slice la5 ln5 lc5, .slice fa5 fn5 fc5] 28)) (bel_step (bel_step HB3.out BQ.out) hba) u la5 ln5 lc5 fa5 fn5 fc5 (KV_deeper _ _ _ _ _ (KV_deeper _ _ _ _ _ (Knd.below hru hba))))
              have HBA := Ap.of (bel_step BQ.out hba)
              have HNX := Ap.of (take_any (fun u => cmpD (D + 3) z u == 0) hxu)
              clear hxu hru hba
              generalize cmpD (D + 3) z u = kq at *
              cases q with
              | true =>
                go_wp2_with fail
                go_roundw
                case rel => exact ⟨j + 1, true, by have := HJT.out; omega, by go_num, rfl, Ap.of (by rw [HNX.out, ← HQ.out]; rfl), HBA⟩
                case measure => have := HJT.out; simp [intOf]; omega
              | false =>
                go_wp2_with fail
                (with_reducible refine HCU.out.mono ?_)
                rintro e w4 ⟨rfl, hb4⟩
                have HB4 := Ap.of (bel_step HBA.out hb4)
                clear hb4
                go_wp2_with fail
                go_roundw
                case rel => exact ⟨j + 1, (kq == 0), by have := HJT.out; omega, by go_num, rfl, Ap.of (by rw [HNX.out, ← HQ.out]; rfl), HB4⟩
                case measure => have := HJT.out; simp [intOf]; omega
            · obtain rfl : j = ln4 := by omega
              have hjt' : ¬ (j : Int) < (j : Int) := by omega
              have HQA := Ap.of (show q = t.list.any (fun u => cmpD (D + 3) z u == 0) by rw [HQ.out, ← HLL.out, List.take_length])
              have BTQ := Ap.of (blk_bel BT3.out BQ.out)
              have ctq := blk_cells BTQ.out
              have ltq := blk_lt BTQ.out
              have HBE := Ap.of (bel_step HB3.out BQ.out)
              clear HQ BQ hjt ct lt3 HL3 HLL
              generalize hti : t.int = ti at *
              have HTI := Ap.of hti
              generalize t.kind = tk at *
              generalize t.text = tx at *
              clear hti
              have hsg : (kc < 0 ∧ (kc == 0) = false ∧ (kc != 0) = true ∧ decide (0 < kc) = false ∧ decide (0 ≤ kc) = false ∧ decide (kc < 0) = true ∧ decide (kc ≤ 0) = true) ∨
                  (kc = 0 ∧ (kc == 0) = true ∧ (kc != 0) = false ∧ decide (0 < kc) = false ∧ decide (0 ≤ kc) = true ∧ decide (kc < 0) = false ∧ decide (kc ≤ 0) = true) ∨
                  (0 < kc ∧ (kc == 0) = false ∧ (kc != 0) = true ∧ decide (0 < kc) = true ∧ decide (0 ≤ kc) = true ∧ decide (kc < 0) = false ∧ decide (kc ≤ 0) = false) := by
                rcases Int.lt_trichotomy kc 0 with h | h | h
                · refine .inl ⟨h, ?_⟩
                  simp
                  omega
                · subst h; exact .inr (.inl (by decide))
                · refine .inr (.inr ⟨h, ?_⟩)
                  simp
                  omega
              have HNO := Ap.of (fun (h : o = none) => (show condO (D + 3) o (namedI n1) t = if namedI n1 = 9 then !(ti == 1) else namedI n1 == 3 by rw [h, cond_none, HTI.out]))
              have HSO := Ap.of (fun (h : o = some z) => (show condO (D + 3) o (namedI n1) t = if namedI n1 = 9 then (ti == 1) else oneK (namedI n1) kc q by rw [h, cond_some, HTI.out, HKC.out, HQA.out]))
              clear HTI HKC HQA
              rcases HQ8.out with ⟨hnm, hni⟩ | ⟨hnm, hni⟩ | ⟨hnm, hni⟩ | ⟨hnm, hni⟩ | ⟨hnm, hni⟩ | ⟨hnm, hni⟩ | ⟨hnm, hni⟩ | ⟨hnm, hni⟩
              · clear HQ8
                rcases HOO.out with ⟨hon, hbn⟩ | ⟨hon, hbn⟩
                · subst hbn
                  have HNV := Ap.of (HNO.out hon)
                  clear hon
                  have HC := Ap.of (show p (n1, t) = false by rw [HPX.out]; rw [HNV.out, hni]; rfl)
                  clear HNO HSO HPX HNV hni
                  subst hnm
                  go_wp2_with fail
                  go_ret
                  exact ⟨by rw [HRE2.out, all_of_not p HX.out HC.out]; rfl, bel_step HWC.out HBE.out⟩
                · subst hbn
                  have HNV := Ap.of (HSO.out hon)
                  clear hon
                  rcases hsg with ⟨h0, e1, e2, e3, e4, e5, e6⟩ | ⟨h0, e1, e2, e3, e4, e5, e6⟩ | ⟨h0, e1, e2, e3, e4, e5, e6⟩
                  · have HC := Ap.of (show p (n1, t) = false by rw [HPX.out]; rw [HNV.out, hni]; simp [oneK, e1])
                    clear h0
                    clear HNO HSO HPX HNV hni
                    subst hnm
                    go_wp2_with fail
                    go_ret
                    exact ⟨by rw [HRE2.out, all_of_not p HX.out HC.out]; rfl, bel_step HWC.out HBE.out⟩
                  · have HC := Ap.of (show p (n1, t) = true by rw [HPX.out]; rw [HNV.out, hni]; simp [oneK, e1])
                    clear h0
                    clear HNO HSO HPX HNV hni
                    subst hnm
                    go_wp2_with fail
                    go_roundw
                    case rel => exact ⟨k + 1, by have := HLT.out; omega, by go_num, Ap.of (by rw [take_all p HX.out, HM.out, HC.out]; rfl), HBE⟩
                    case measure => have := HLT.out; simp [intOf]; omega
                  · have HC := Ap.of (show p (n1, t) = false by rw [HPX.out]; rw [HNV.out, hni]; simp [oneK, e1])
                    clear h0
                    clear HNO HSO HPX HNV hni
                    subst hnm
                    go_wp2_with fail
                    go_ret
                    exact ⟨by rw [HRE2.out, all_of_not p HX.out HC.out]; rfl, bel_step HWC.out HBE.out⟩
              · clear HQ8
                rcases HOO.out with ⟨hon, hbn⟩ | ⟨hon, hbn⟩
                · subst hbn
                  have HNV := Ap.of (HNO.out hon)
                  clear hon
                  have HC := Ap.of (show p (n1, t) = true by rw [HPX.out]; rw [HNV.out, hni]; rfl)
                  clear HNO HSO HPX HNV hni
                  subst hnm
                  go_wp2_with fail
                  go_roundw
                  case rel => exact ⟨k + 1, by have := HLT.out; omega, by go_num, Ap.of (by rw [take_all p HX.out, HM.out, HC.out]; rfl), HBE⟩
                  case measure => have := HLT.out; simp [intOf]; omega
                · subst hbn
                  have HNV := Ap.of (HSO.out hon)
                  clear hon
                  rcases hsg with ⟨h0, e1, e2, e3, e4, e5, e6⟩ | ⟨h0, e1, e2, e3, e4, e5, e6⟩ | ⟨h0, e1, e2, e3, e4, e5, e6⟩
                  · have HC := Ap.of (show p (n1, t) = true by rw [HPX.out]; rw [HNV.out, hni]; simp [oneK, e2])
                    clear h0
                    clear HNO HSO HPX HNV hni
                    subst hnm
                    go_wp2_with fail
                    go_roundw
                    case rel => exact ⟨k + 1, by have := HLT.out; omega, by go_num, Ap.of (by rw [take_all p HX.out, HM.out, HC.out]; rfl), HBE⟩
                    case measure => have := HLT.out; simp [intOf]; omega
                  · have HC := Ap.of (show p (n1, t) = false by rw [HPX.out]; rw [HNV.out, hni]; simp [oneK, e2])
                    clear h0
                    clear HNO HSO HPX HNV hni
                    subst hnm
                    go_wp2_with fail
                    go_ret
                    exact ⟨by rw [HRE2.out, all_of_not p HX.out HC.out]; rfl, bel_step HWC.out HBE.out⟩
                  · have HC := Ap.of (show p (n1, t) = true by rw [HPX.out]; rw [HNV.out, hni]; simp [oneK, e2])
                    clear h0
                    clear HNO HSO HPX HNV hni
                    subst hnm
                    go_wp2_with fail
                    go_roundw
                    case rel => exact ⟨k + 1, by have := HLT.out; omega, by go_num, Ap.of (by rw [take_all p HX.out, HM.out, HC.out]; rfl), HBE⟩
                    case measure => have := HLT.out; simp [intOf]; omega
              · clear HQ8
                rcases HOO.out with ⟨hon, hbn⟩ | ⟨hon, hbn⟩
                · subst hbn
                  have HNV := Ap.of (HNO.out hon)
                  clear hon
                  have HC := Ap.of (show p (n1, t) = false by rw [HPX.out]; rw [HNV.out, hni]; rfl)
                  clear HNO HSO HPX HNV hni
                  subst hnm
                  go_wp2_with fail
                  go_ret
                  exact ⟨by rw [HRE2.out, all_of_not p HX.out HC.out]; rfl, bel_step HWC.out HBE.out⟩
                · subst hbn
                  have HNV := Ap.of (HSO.out hon)
                  clear hon
                  rcases hsg with ⟨h0, e1, e2, e3, e4, e5, e6⟩ | ⟨h0, e1, e2, e3, e4, e5, e6⟩ | ⟨h0, e1, e2, e3, e4, e5, e6⟩
                  · have HC := Ap.of (show p (n1, t) = false by rw [HPX.out]; rw [HNV.out, hni]; simp [oneK, e3])
                    clear h0
                    clear HNO HSO HPX HNV hni
                    subst hnm
                    go_wp2_with fail
                    go_ret
                    exact ⟨by rw [HRE2.out, all_of_not p HX.out HC.out]; rfl, bel_step HWC.out HBE.out⟩
                  · have HC := Ap.of (show p (n1, t) = false by rw [HPX.out]; rw [HNV.out, hni]; simp [oneK, e3])
                    clear h0
                    clear HNO HSO HPX HNV hni
                    subst hnm
                    go_wp2_with fail
                    go_ret
                    exact ⟨by rw [HRE2.out, all_of_not p HX.out HC.out]; rfl, bel_step HWC.out HBE.out⟩
                  · have HC := Ap.of (show p (n1, t) = true by rw [HPX.out]; rw [HNV.out, hni]; simp [oneK, e3])
                    clear h0
                    clear HNO HSO HPX HNV hni
                    subst hnm
                    go_wp2_with fail
                    go_roundw
                    case rel => exact ⟨k + 1, by have := HLT.out; omega, by go_num, Ap.of (by rw [take_all p HX.out, HM.out, HC.out]; rfl), HBE⟩
                    case measure => have := HLT.out; simp [intOf]; omega
              · clear HQ8
                rcases HOO.out with ⟨hon, hbn⟩ | ⟨hon, hbn⟩
                · subst hbn
                  have HNV := Ap.of (HNO.out hon)
                  clear hon
                  have HC := Ap.of (show p (n1, t) = false by rw [HPX.out]; rw [HNV.out, hni]; rfl)
                  clear HNO HSO HPX HNV hni
                  subst hnm
                  go_wp2_with fail
                  go_ret
                  exact ⟨by rw [HRE2.out, all_of_not p HX.out HC.out]; rfl, bel_step HWC.out HBE.out⟩
                · subst hbn
                  have HNV := Ap.of (HSO.out hon)
                  clear hon
                  rcases hsg with ⟨h0, e1, e2, e3, e4, e5, e6⟩ | ⟨h0, e1, e2, e3, e4, e5, e6⟩ | ⟨h0, e1, e2, e3, e4, e5, e6⟩
                  · have HC := Ap.of (show p (n1, t) = false by rw [HPX.out]; rw [HNV.out, hni]; simp [oneK, e1, e3])
                    clear h0
                    clear HNO HSO HPX HNV hni
                    subst hnm
                    go_wp2_with fail
                    go_ret
                    exact ⟨by rw [HRE2.out, all_of_not p HX.out HC.out]; rfl, bel_step HWC.out HBE.out⟩
                  · have HC := Ap.of (show p (n1, t) = true by rw [HPX.out]; rw [HNV.out, hni]; simp [oneK, e1, e3])
                    clear h0
                    clear HNO HSO HPX HNV hni
                    subst hnm
                    go_wp2_with fail
                    go_roundw
                    case rel => exact ⟨k + 1, by have := HLT.out; omega, by go_num, Ap.of (by rw [take_all p HX.out, HM.out, HC.out]; rfl), HBE⟩
                    case measure => have := HLT.out; simp [intOf]; omega
                  · have HC := Ap.of (show p (n1, t) = true by rw [HPX.out]; rw [HNV.out, hni]; simp [oneK, e1, e3])
                    clear h0
                    clear HNO HSO HPX HNV hni
                    subst hnm
                    go_wp2_with fail
                    go_roundw
                    case rel => exact ⟨k + 1, by have := HLT.out; omega, by go_num, Ap.of (by rw [take_all p HX.out, HM.out, HC.out]; rfl), HBE⟩
                    case measure => have := HLT.out; simp [intOf]; omega
              · clear HQ8
                rcases HOO.out with ⟨hon, hbn⟩ | ⟨hon, hbn⟩
                · subst hbn
                  have HNV := Ap.of (HNO.out hon)
                  clear hon
                  have HC := Ap.of (show p (n1, t) = false by rw [HPX.out]; rw [HNV.out, hni]; rfl)
                  clear HNO HSO HPX HNV hni
                  subst hnm
                  go_wp2_with fail
                  go_ret
                  exact ⟨by rw [HRE2.out, all_of_not p HX.out HC.out]; rfl, bel_step HWC.out HBE.out⟩
                · subst hbn
                  have HNV := Ap.of (HSO.out hon)
                  clear hon
                  rcases hsg with ⟨h0, e1, e2, e3, e4, e5, e6⟩ | ⟨h0, e1, e2, e3, e4, e5, e6⟩ | ⟨h0, e1, e2, e3, e4, e5, e6⟩
                  · have HC := Ap.of (show p (n1, t) = true by rw [HPX.out]; rw [HNV.out, hni]; simp [oneK, e5])
                    clear h0
                    clear HNO HSO HPX HNV hni
                    subst hnm
                    go_wp2_with fail
                    go_roundw
                    case rel => exact ⟨k + 1, by have := HLT.out; omega, by go_num, Ap.of (by rw [take_all p HX.out, HM.out, HC.out]; rfl), HBE⟩
                    case measure => have := HLT.out; simp [intOf]; omega
                  · have HC := Ap.of (show p (n1, t) = false by rw [HPX.out]; rw [HNV.out, hni]; simp [oneK, e5])
                    clear h0
                    clear HNO HSO HPX HNV hni
                    subst hnm
                    go_wp2_with fail
                    go_ret
                    exact ⟨by rw [HRE2.out, all_of_not p HX.out HC.out]; rfl, bel_step HWC.out HBE.out⟩
                  · have HC := Ap.of (show p (n1, t) = false by rw [HPX.out]; rw [HNV.out, hni]; simp [oneK, e5])
                    clear h0
                    clear HNO HSO HPX HNV hni
                    subst hnm
                    go_wp2_with fail
                    go_ret
                    exact ⟨by rw [HRE2.out, all_of_not p HX.out HC.out]; rfl, bel_step HWC.out HBE.out⟩
              · clear HQ8
                rcases HOO.out with ⟨hon, hbn⟩ | ⟨hon, hbn⟩
                · subst hbn
                  have HNV := Ap.of (HNO.out hon)
                  clear hon
                  have HC := Ap.of (show p (n1, t) = false by rw [HPX.out]; rw [HNV.out, hni]; rfl)
                  clear HNO HSO HPX HNV hni
                  subst hnm
                  go_wp2_with fail
                  go_ret
                  exact ⟨by rw [HRE2.out, all_of_not p HX.out HC.out]; rfl, bel_step HWC.out HBE.out⟩
                · subst hbn
                  have HNV := Ap.of (HSO.out hon)
                  clear hon
                  rcases hsg with ⟨h0, e1, e2, e3, e4, e5, e6⟩ | ⟨h0, e1, e2, e3, e4, e5, e6⟩ | ⟨h0, e1, e2, e3, e4, e5, e6⟩
                  · have HC := Ap.of (show p (n1, t) = true by rw [HPX.out]; rw [HNV.out, hni]; simp [oneK, e1, e5])
                    clear h0
                    clear HNO HSO HPX HNV hni
                    subst hnm
                    go_wp2_with fail
                    go_roundw
                    case rel => exact ⟨k + 1, by have := HLT.out; omega, by go_num, Ap.of (by rw [take_all p HX.out, HM.out, HC.out]; rfl), HBE⟩
                    case measure => have := HLT.out; simp [intOf]; omega
                  · have HC := Ap.of (show p (n1, t) = true by rw [HPX.out]; rw [HNV.out, hni]; simp [oneK, e1, e5])
                    clear h0
                    clear HNO HSO HPX HNV hni
                    subst hnm
                    go_wp2_with fail
                    go_roundw
                    case rel => exact ⟨k + 1, by have := HLT.out; omega, by go_num, Ap.of (by rw [take_all p HX.out, HM.out, HC.out]; rfl), HBE⟩
                    case measure => have := HLT.out; simp [intOf]; omega
                  · have HC := Ap.of (show p (n1, t) = false by rw [HPX.out]; rw [HNV.out, hni]; simp [oneK, e1, e5])
                    clear h0
                    clear HNO HSO HPX HNV hni
                    subst hnm
                    go_wp2_with fail
                    go_ret
                    exact ⟨by rw [HRE2.out, all_of_not p HX.out HC.out]; rfl, bel_step HWC.out HBE.out⟩
              · clear HQ8 hsg
                rcases HOO.out with ⟨hon, hbn⟩ | ⟨hon, hbn⟩
                · subst hbn
                  have HNV := Ap.of (HNO.out hon)
                  clear hon
                  have HC := Ap.of (show p (n1, t) = false by rw [HPX.out]; rw [HNV.out, hni]; rfl)
                  clear HNO HSO HPX HNV hni
                  subst hnm
                  go_wp2_with fail
                  go_ret
                  exact ⟨by rw [HRE2.out, all_of_not p HX.out HC.out]; rfl, bel_step HWC.out HBE.out⟩
                · subst hbn
                  have HNV := Ap.of (HSO.out hon)
                  clear hon
                  cases q with
                  | true =>
                    have HC := Ap.of (show p (n1, t) = true by rw [HPX.out]; rw [HNV.out, hni]; rfl)
                    clear HNO HSO HPX HNV hni
                    subst hnm
                    go_wp2_with fail
                    go_roundw
                    case rel => exact ⟨k + 1, by have := HLT.out; omega, by go_num, Ap.of (by rw [take_all p HX.out, HM.out, HC.out]; rfl), HBE⟩
                    case measure => have := HLT.out; simp [intOf]; omega
                  | false =>
                    have HC := Ap.of (show p (n1, t) = false by rw [HPX.out]; rw [HNV.out, hni]; rfl)
                    clear HNO HSO HPX HNV hni
                    subst hnm
                    go_wp2_with fail
                    go_ret
                    exact ⟨by rw [HRE2.out, all_of_not p HX.out HC.out]; rfl, bel_step HWC.out HBE.out⟩
              · clear HQ8 hsg
                rcases HOO.out with ⟨hon, hbn⟩ | ⟨hon, hbn⟩
                · subst hbn
                  have HNV := Ap.of (HNO.out hon)
                  clear hon
                  cases h1 : (ti == 1) with
                  | true =>
                    have HC := Ap.of (show p (n1, t) = false by rw [HPX.out]; rw [HNV.out, hni, if_pos rfl, h1]; rfl)
                    clear HNO HSO HPX HNV hni
                    subst hnm
                    go_wp2_with fail
                    go_ret
                    exact ⟨by rw [HRE2.out, all_of_not p HX.out HC.out]; rfl, bel_step HWC.out HBE.out⟩
                  | false =>
                    have HC := Ap.of (show p (n1, t) = true by rw [HPX.out]; rw [HNV.out, hni, if_pos rfl, h1]; rfl)
                    clear HNO HSO HPX HNV hni
                    subst hnm
                    go_wp2_with fail
                    go_roundw
                    case rel => exact ⟨k + 1, by have := HLT.out; omega, by go_num, Ap.of (by rw [take_all p HX.out, HM.out, HC.out]; rfl), HBE⟩
                    case measure => have := HLT.out; simp [intOf]; omega
                · subst hbn
                  have HNV := Ap.of (HSO.out hon)
                  clear hon
                  cases h1 : (ti == 1) with
                  | true =>
                    have HC := Ap.of (show p (n1, t) = true by rw [HPX.out]; rw [HNV.out, hni, if_pos rfl, h1])
                    clear HNO HSO HPX HNV hni
                    subst hnm
                    go_wp2_with fail
                    go_roundw
                    case rel => exact ⟨k + 1, by have := HLT.out; omega, by go_num, Ap.of (by rw [take_all p HX.out, HM.out, HC.out]; rfl), HBE⟩
                    case measure => have := HLT.out; simp [intOf]; omega
                  | false =>
                    have HC := Ap.of (show p (n1, t) = false by rw [HPX.out]; rw [HNV.out, hni, if_pos rfl, h1])
                    clear HNO HSO HPX HNV hni
                    subst hnm
                    go_wp2_with fail
                    go_ret
                    exact ⟨by rw [HRE2.out, all_of_not p HX.out HC.out]; rfl, bel_step HWC.out HBE.out⟩
        · obtain rfl : k = fn2 := by omega
          have hlt' : ¬ (k : Int) < (k : Int) := by omega
          go_wp2_with fail
          go_ret
          exact ⟨by
            have h := HM.out
            rw [← HLN.out, List.take_length] at h
            rw [HRE2.out, h]; rfl, bel_step HWC.out BL.out⟩
end Go.Proofs.YtlomieopppndeaaGreatDoor
