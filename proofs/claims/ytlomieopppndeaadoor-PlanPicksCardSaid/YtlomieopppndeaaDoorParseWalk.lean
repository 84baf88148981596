/- filter.field, filter.Parse: a filter out of a value. -/
import Derived.Test.YtlomieopppndeaaDoorManyT
import Derived.Test.YtlomieopppndeaaDoorManyF
import Derived.Test.YtlomieopppndeaaDoorManyV
import Derived.Deep.RegionHeld3
namespace Go.Proofs.YtlomieopppndeaaDoor
open Go.RowKit

/-- What is read is of a size that can be. -/
def NOk : Nat → Val → Prop
  | 0, _ => False
  | d + 1, x => x.list.length ≤ 1000000 ∧ x.fields.length ≤ 1000000 ∧ (∀ y ∈ x.list, NOk d y) ∧ ∀ f ∈ x.fields, (pre36 f.1 = true ∨ f.1.size < 4294967281) ∧ NOk d f.2
def FieldS (dv D : Nat) : Prop := ∀ (F : Nat) (nm : ByteArray) (y : Val) (la2 : Option Addr) (ln2 lc2 : Nat) (fa2 : Option Addr) (fn2 fc2 : Nat) (ok : Nat → Prop) (w : World), D ≤ F → D ≤ dv + 1 → (∀ k, ok k → k < w.heap.size) → nm.size ≤ maxLen → (pre36 nm = true ∨ nm.size < 4294967281) → NOk D y → FilG w → (KV D).R w ok y [.int .i64 y.kind, .int .i64 y.int, .string y.text, .slice la2 ln2 lc2, .slice fa2 fn2 fc2] →
  Calls Tryd.prog 36 #[.agg #[.string nm, .int .i64 y.kind, .int .i64 y.int, .string y.text, .slice la2 ln2 lc2, .slice fa2 fn2 fc2]] w (ResP dv (D + 1) w ok (fieldD F (nm, y)))
def ParseS (dv D : Nat) : Prop := ∀ (F : Nat) (y : Val) (la2 : Option Addr) (ln2 lc2 : Nat) (fa2 : Option Addr) (fn2 fc2 : Nat) (ok : Nat → Prop) (w : World), D ≤ F → D ≤ dv + 1 → (∀ k, ok k → k < w.heap.size) → NOk D y → FilG w → (KV D).R w ok y [.int .i64 y.kind, .int .i64 y.int, .string y.text, .slice la2 ln2 lc2, .slice fa2 fn2 fc2] →
  Calls Tryd.prog 21 #[.agg #[.int .i64 y.kind, .int .i64 y.int, .string y.text, .slice la2 ln2 lc2, .slice fa2 fn2 fc2]] w (ResP dv (D + 1) w ok (parseD F y))

theorem res_set {dv d : Nat} {w wc w3 : World} {ok : Nat → Prop} {r : Except Int Flt} {f : Flt} {la : Option Addr} {ln lc : Nat} {fa : Option Addr} {fn fc : Nat} {sa : Option Addr} {sn sc : Nat} {er : Value} {cs : Array Value} (hok : ∀ k, ok k → k < w.heap.size) (hw : Below w.heap.size w wc) (hlt : w.heap.size + 1 < wc.heap.size) (hb : Below wc.heap.size wc w3)
    (hR : (KF (dv + 1) (d + 1)).R w3 (fun k => ok k ∨ wc.heap.size ≤ k) f [.int .i64 f.op, .string f.path, .int .i64 f.val.kind, .int .i64 f.val.int, .string f.val.text, .slice la ln lc, .slice fa fn fc, .slice sa sn sc])
    (hd : (r = .ok f ∧ er = .nilIface) ∨ ∃ (c : Int) (m g : Nat), r = .error c ∧ f = Flt.zero ∧ er = .iface 88 (.pointer (some ⟨g, 0, none⟩)) ∧ ErrAt w3 m c er)
    (hbk : w3.heap[w.heap.size + 1]? = some (.cells cs 32 (0, 0))) :
    ResP dv d w ok r (.returned (.tuple #[.agg #[.int .i64 f.op, .string f.path, .int .i64 f.val.kind, .int .i64 f.val.int, .string f.val.text, .slice la ln lc, .slice fa fn fc, .slice sa sn sc], er])) ((((((((w3.setCell ⟨w.heap.size + 1, 0, none⟩ (.int .i64 f.op)).setCell ⟨w.heap.size + 1, 1, none⟩ (.string f.path)).setCell ⟨w.heap.size + 1, 2, none⟩ (.int .i64 f.val.kind)).setCell ⟨w.heap.size + 1, 3, none⟩ (.int .i64 f.val.int)).setCell ⟨w.heap.size + 1, 4, none⟩ (.string f.val.text)).setCell ⟨w.heap.size + 1, 5, none⟩ (.slice la ln lc)).setCell ⟨w.heap.size + 1, 6, none⟩ (.slice fa fn fc)).setCell ⟨w.heap.size + 1, 7, none⟩ (.slice sa sn sc)) := by
  have hs := only8 w3 (w.heap.size + 1) (.int .i64 f.op) (.string f.path) (.int .i64 f.val.kind) (.int .i64 f.val.int) (.string f.val.text) (.slice la ln lc) (.slice fa fn fc) (.slice sa sn sc)
  have hb3 := bel_step hw hb
  refine ⟨f, la, ln, lc, fa, fn, fc, sa, sn, sc, er, rfl, (KF (dv + 1) (d + 1)).mono (fun k hk => hk.elim .inl (fun h => .inr (by omega))) (Knd.only hR hs (fun k hk e => ?_)), bel_only hb3 hb3.size hs (fun j he => by omega), ?_⟩
  · rcases hk with h | h
    · have := hok k h; omega
    · omega
  · rcases hd with h | ⟨c, m, g, h1, h2, h3, h4⟩
    · exact .inl h
    · refine .inr ⟨c, m, g, h1, h2, h3, ErrAt.only hs (fun g2 cs2 hg2 e => ?_) h4⟩
      rw [e, hbk] at hg2
      simp at hg2

set_option maxRecDepth 100000 in
set_option maxHeartbeats 4000000 in
theorem parse_step (dv D : Nat) (ih : FieldS dv D) : ParseS dv (D + 1) := by
  intro F y la2 ln2 lc2 fa2 fn2 fc2 ok w hF hdv hok hN G hy
  obtain ⟨_, hN2, _, hNf⟩ := hN
  have hf := (KV_parts hy).2.2.2.2
  have hb2 := bel_step (bel_alloc w (.cells #[.int .i64 y.kind, .int .i64 y.int, .string y.text, .slice la2 ln2 lc2, .slice fa2 fn2 fc2] 29)) (bel_alloc _ (.cells #[.int .i64 0, .string ⟨#[]⟩, .int .i64 0, .int .i64 0, .string ⟨#[]⟩, .slice none 0 0, .slice none 0 0, .slice none 0 0] 32))
  have br := blk_new (w := w.alloc (.cells #[.int .i64 y.kind, .int .i64 y.int, .string y.text, .slice la2 ln2 lc2, .slice fa2 fn2 fc2] 29)) (k := w.heap.size + 1) (o := .cells #[.int .i64 0, .string ⟨#[]⟩, .int .i64 0, .int .i64 0, .string ⟨#[]⟩, .slice none 0 0, .slice none 0 0, .slice none 0 0] 32) (by simp)
  have hP : parseD F y = if y.kind ≠ 5 then .error 7 else manyE 0 (fieldD F) y.fields := rfl
  generalize hres : parseD F y = res at *
  by_cases h5 : y.kind = 5
  · have hP2 : res = manyE 0 (fieldD F) y.fields := by rw [hP, if_neg (by simp [h5])]
    subst hP2
    have hcall : Calls Tryd.prog 35 #[.int .i64 0, .slice fa2 fn2 fc2, .func (.func 36) #[] #[]] ((w.alloc (.cells #[.int .i64 y.kind, .int .i64 y.int, .string y.text, .slice la2 ln2 lc2, .slice fa2 fn2 fc2] 29)).alloc (.cells #[.int .i64 0, .string ⟨#[]⟩, .int .i64 0, .int .i64 0, .string ⟨#[]⟩, .slice none 0 0, .slice none 0 0, .slice none 0 0] 32)) (ResP dv (D + 2) ((w.alloc (.cells #[.int .i64 y.kind, .int .i64 y.int, .string y.text, .slice la2 ln2 lc2, .slice fa2 fn2 fc2] 29)).alloc (.cells #[.int .i64 0, .string ⟨#[]⟩, .int .i64 0, .int .i64 0, .string ⟨#[]⟩, .slice none 0 0, .slice none 0 0, .slice none 0 0] 32)) ok (manyE 0 (fieldD F) y.fields)) := by
      cases D with
      | zero =>
        have h0 : y.fields = [] := by
          rcases Nat.eq_zero_or_pos fn2 with h | h
          · exact List.length_eq_zero_iff.1 (hf.length.trans h)
          · obtain ⟨_, _, _, _, _, _, ⟨_, _, _, hh⟩, _⟩ := hf.elem h
            exact hh.elim
        have hr : Row (KFld (KV 1)) w ok fa2 fn2 fc2 y.fields := hf.deeper (by rw [KFld_sz, KFld_sz]) (by rintro w ok x cs ⟨cs', e, hl, h⟩; exact h.elim)
        exact manyF_calls dv 1 0 0 ⟨by decide, by decide⟩ fa2 fn2 fc2 y.fields ok _ (fun k hk => Nat.lt_of_lt_of_le (hok k hk) hb2.size) (by rw [← hf.length]; exact hN2) (hr.below hb2) (fieldD F) (fun nm z _ _ _ _ _ _ W hW hnm hR hm => by rw [h0] at hm; cases hm)
      | succ D =>
        exact manyF_calls dv (D + 2) D 0 ⟨by decide, by decide⟩ fa2 fn2 fc2 y.fields ok _ (fun k hk => Nat.lt_of_lt_of_le (hok k hk) hb2.size) (by rw [← hf.length]; exact hN2) (hf.below hb2) (fieldD F) (fun nm z l5 m5 c5 g5 f5 h5 W hW hnm hR hm =>
          ih F nm z l5 m5 c5 g5 f5 h5 ok W (by omega) (by omega) (fun k hk => Nat.lt_of_lt_of_le (hok k hk) (Nat.le_trans hb2.size hW.size)) hnm (hNf _ hm).1 (hNf _ hm).2 (G.below (bel_step hb2 hW)) hR)
    have HC := Ap.of hcall
    have HB2 := Ap.of hb2
    have HBR := Ap.of br
    have HOK := Ap.of hok
    have HS2 := Ap.of (show ((w.alloc (.cells #[.int .i64 y.kind, .int .i64 y.int, .string y.text, .slice la2 ln2 lc2, .slice fa2 fn2 fc2] 29)).alloc (.cells #[.int .i64 0, .string ⟨#[]⟩, .int .i64 0, .int .i64 0, .string ⟨#[]⟩, .slice none 0 0, .slice none 0 0, .slice none 0 0] 32)).heap.size = w.heap.size + 2 by simp)
    clear hcall hb2 br hok hf hN2 hNf hy hP hres G hF hdv
    generalize manyE 0 (fieldD F) y.fields = res at *
    generalize y.kind = yk at *
    generalize y.int = yi at *
    generalize y.text = yt at *
    subst h5
    go_enter Tryd.func21, Tryd.ntmps21
    go_wp2_with fail
    refine HC.out.mono ?_
    rintro e w3 ⟨f, la, ln, lc, fa, fn, fc, sa, sn, sc, er, rfl, hR, hb, hd⟩
    have br3 := blk_bel HBR.out hb
    have HD := Ap.of (And.intro hR (And.intro hb (And.intro hd br3)))
    have dr := blk_cells br3
    have fr := blk_free br3
    have lr := blk_lt br3
    clear hR hb hd br3
    go_wp2_with fail
    exact bodyPost_ret (v := .tuple #[.agg #[.int .i64 f.op, .string f.path, .int .i64 f.val.kind, .int .i64 f.val.int, .string f.val.text, .slice la ln lc, .slice fa fn fc, .slice sa sn sc], er]) (by simp [results, Tryd.results21, go_sem, dr]) rfl
      (res_set HOK.out HB2.out (by rw [HS2.out]; omega) HD.out.2.1 HD.out.1 HD.out.2.2.1 HD.out.2.2.2)
  · have HP := Ap.of (show res = .error 7 by rw [hP, if_pos h5])
    have t5 : (y.kind == 5) = false := by simpa using h5
    clear hP hf hb2 br ih hN2 hNf hy hok G hF hdv hres h5
    generalize y.kind = yk at *
    generalize y.int = yi at *
    generalize y.text = yt at *
    go_enter Tryd.func21, Tryd.ntmps21
    go_wp2_with fail
    refine (new_calls 7 (by decide) _ _).mono ?_
    rintro e w1 ⟨rfl, rfl⟩
    go_wp2_with fail
    exact bodyPost_ret (v := .tuple #[.agg #[.int .i64 0, .string ⟨#[]⟩, .int .i64 0, .int .i64 0, .string ⟨#[]⟩, .slice none 0 0, .slice none 0 0, .slice none 0 0], .iface 88 (.pointer (some ⟨w.heap.size + 1 + 1, 0, none⟩))]) (by simp [results, Tryd.results21, go_sem]) rfl
      (ResP.err (m := 1) HP.out ⟨_, _, _, rfl, blk_new (by simp), rfl⟩ (bel_step (bel_step (bel_alloc _ _) (bel_alloc _ _)) (bel_alloc _ _)))
end Go.Proofs.YtlomieopppndeaaDoor
