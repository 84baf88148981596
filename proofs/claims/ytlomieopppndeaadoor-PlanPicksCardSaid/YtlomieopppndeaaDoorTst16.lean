/- roundelaylaw16.test: a condition of two bytes. -/
import Derived.Test.YtlomieopppndeaaDoorSmall
import Derived.Test.YtlomieopppndeaaDoorDocNames
import Derived.Test.YtlomieopppndeaaDoorPathAwake
import Derived.Deep.RegionWith
import Derived.Deep.DeepCutAuto
namespace Go.Proofs.YtlomieopppndeaaDoor
open Go.RowKit

structure TeG (w : World) : Prop where
  laid : Laid w
  tests : ∀ (j : Nat) (s : ByteArray), testsOf[j]? = some s → w.cell? ⟨2, j, none⟩ = some (.string s)
theorem TeG.below {w w' : World} (h : TeG w) (hb : Below w.heap.size w w') : TeG w' :=
  ⟨h.laid.below hb, fun j s hj => (World.cell?_of_block (w := w) (hb.block 2 (Nat.lt_of_lt_of_le (by decide) h.laid.lo))).trans (h.tests j s hj)⟩
/-- A condition, in new memory. -/
def TstP (w : World) (e : Ending) (w' : World) : Prop :=
  ∃ (nm : ByteArray) (x : Val) (la : Option Addr) (ln lc : Nat) (fa : Option Addr) (fn fc : Nat), e = .returned (.tuple #[.agg #[.string nm, .int .i64 x.kind, .int .i64 x.int, .string x.text, .slice la ln lc, .slice fa fn fc], .bool true]) ∧ nm ∈ testsOf ∧
    (KV 5).R w' (fun k => w.heap.size ≤ k) x [.int .i64 x.kind, .int .i64 x.int, .string x.text, .slice la ln lc, .slice fa fn fc] ∧ GoodV 5 x ∧ Below w.heap.size w w'

/-- Where the condition lies while it is made. -/
def T6 (w W : World) (gB : Nat) (nm : ByteArray) (x : Val) (la : Option Addr) (ln lc : Nat) (fa : Option Addr) (fn fc : Nat) : Prop :=
  w.heap.size < gB ∧ W.heap[gB]? = some (.cells #[.string nm, .int .i64 x.kind, .int .i64 x.int, .string x.text, .slice la ln lc, .slice fa fn fc] 69 (0, 0)) ∧ W.heap[w.heap.size]? = some (.cells #[.string ⟨#[]⟩, .int .i64 0, .int .i64 0, .string ⟨#[]⟩, .slice none 0 0, .slice none 0 0] 69 (0, 0)) ∧ (KV 4).R W (fun k => w.heap.size < k ∧ k ≠ gB) x [.int .i64 x.kind, .int .i64 x.int, .string x.text, .slice la ln lc, .slice fa fn fc] ∧ GoodV 4 x ∧ Below w.heap.size w W
theorem T6.a {w w3 : World} {nm : ByteArray} {x : Val} {la : Option Addr} {ln lc : Nat} {fa : Option Addr} {fn fc : Nat} (hx : (KV 4).R w3 (fun k => (w.alloc (.cells #[.string ⟨#[]⟩, .int .i64 0, .int .i64 0, .string ⟨#[]⟩, .slice none 0 0, .slice none 0 0] 69)).drew.heap.size ≤ k) x [.int .i64 x.kind, .int .i64 x.int, .string x.text, .slice la ln lc, .slice fa fn fc]) (hg : GoodV 4 x)
    (hb : Below (w.alloc (.cells #[.string ⟨#[]⟩, .int .i64 0, .int .i64 0, .string ⟨#[]⟩, .slice none 0 0, .slice none 0 0] 69)).drew.heap.size (w.alloc (.cells #[.string ⟨#[]⟩, .int .i64 0, .int .i64 0, .string ⟨#[]⟩, .slice none 0 0, .slice none 0 0] 69)).drew w3) :
    T6 w (w3.alloc (.cells #[.string nm, .int .i64 x.kind, .int .i64 x.int, .string x.text, .slice la ln lc, .slice fa fn fc] 69)) w3.heap.size nm x la ln lc fa fn fc := by
  have h1 := hb.size
  simp at h1
  refine ⟨by omega, blk_new rfl, blk_old (blk_bel (blk_draw (blk_new rfl)) hb), Knd.below ((KV 4).mono (fun k hk => ?_) ((KV 4).bound hx)) (bel_alloc _ _), hg, bel_step (bel_step (bel_step (bel_alloc _ _) (bel_draw _)) hb) (bel_alloc _ _)⟩
  obtain ⟨h2, h3⟩ := hk
  simp at h2
  exact ⟨by omega, by omega⟩
theorem T6.b {w w3 : World} {nm : ByteArray} {x : Val} {la : Option Addr} {ln lc : Nat} {fa : Option Addr} {fn fc : Nat} (hx : (KV 4).R w3 (fun k => ((w.alloc (.cells #[.string ⟨#[]⟩, .int .i64 0, .int .i64 0, .string ⟨#[]⟩, .slice none 0 0, .slice none 0 0] 69)).alloc (.cells #[.string ⟨#[]⟩, .int .i64 0, .int .i64 0, .string ⟨#[]⟩, .slice none 0 0, .slice none 0 0] 69)).drew.heap.size ≤ k) x [.int .i64 x.kind, .int .i64 x.int, .string x.text, .slice la ln lc, .slice fa fn fc]) (hg : GoodV 4 x)
    (hb : Below ((w.alloc (.cells #[.string ⟨#[]⟩, .int .i64 0, .int .i64 0, .string ⟨#[]⟩, .slice none 0 0, .slice none 0 0] 69)).alloc (.cells #[.string ⟨#[]⟩, .int .i64 0, .int .i64 0, .string ⟨#[]⟩, .slice none 0 0, .slice none 0 0] 69)).drew.heap.size ((w.alloc (.cells #[.string ⟨#[]⟩, .int .i64 0, .int .i64 0, .string ⟨#[]⟩, .slice none 0 0, .slice none 0 0] 69)).alloc (.cells #[.string ⟨#[]⟩, .int .i64 0, .int .i64 0, .string ⟨#[]⟩, .slice none 0 0, .slice none 0 0] 69)).drew w3) :
    T6 w ((((((w3.setCell ⟨w.heap.size + 1, 0, none⟩ (.string nm)).setCell ⟨w.heap.size + 1, 1, none⟩ (.int .i64 x.kind)).setCell ⟨w.heap.size + 1, 2, none⟩ (.int .i64 x.int)).setCell ⟨w.heap.size + 1, 3, none⟩ (.string x.text)).setCell ⟨w.heap.size + 1, 4, none⟩ (.slice la ln lc)).setCell ⟨w.heap.size + 1, 5, none⟩ (.slice fa fn fc)) (w.heap.size + 1) nm x la ln lc fa fn fc := by
  have hs := only6 w3 (w.heap.size + 1) (.string nm) (.int .i64 x.kind) (.int .i64 x.int) (.string x.text) (.slice la ln lc) (.slice fa fn fc)
  have b4 := blk_bel (blk_draw (blk_old (o' := .cells #[.string ⟨#[]⟩, .int .i64 0, .int .i64 0, .string ⟨#[]⟩, .slice none 0 0, .slice none 0 0] 69) (blk_new (w := w) (k := w.heap.size) (o := .cells #[.string ⟨#[]⟩, .int .i64 0, .int .i64 0, .string ⟨#[]⟩, .slice none 0 0, .slice none 0 0] 69) rfl))) hb
  have b6 := blk_bel (blk_draw (blk_new (w := w.alloc (.cells #[.string ⟨#[]⟩, .int .i64 0, .int .i64 0, .string ⟨#[]⟩, .slice none 0 0, .slice none 0 0] 69)) (k := w.heap.size + 1) (o := .cells #[.string ⟨#[]⟩, .int .i64 0, .int .i64 0, .string ⟨#[]⟩, .slice none 0 0, .slice none 0 0] 69) (by simp))) hb
  have hbw : Below w.heap.size w w3 := bel_step (bel_step (bel_step (bel_alloc _ _) (bel_alloc _ _)) (bel_draw _)) hb
  refine ⟨by omega, by simpa using blk_set (blk_set (blk_set (blk_set (blk_set (blk_set b6 0 (.string nm)) 1 (.int .i64 x.kind)) 2 (.int .i64 x.int)) 3 (.string x.text)) 4 (.slice la ln lc)) 5 (.slice fa fn fc), blk_only b4 hs (by omega), ?_, hg, bel_only hbw hbw.size hs (fun j he => by omega)⟩
  refine (KV 4).mono (fun k hk => ?_) (Knd.only hx hs (fun j hj he => by simp at hj; omega))
  simp at hk
  exact ⟨by omega, by omega⟩
theorem tst_end {w W : World} {nm : ByteArray} {x : Val} {la : Option Addr} {ln lc : Nat} {fa : Option Addr} {fn fc : Nat} (hn : nm ∈ testsOf) (hx : (KV 5).R W (fun k => w.heap.size < k) x [.int .i64 x.kind, .int .i64 x.int, .string x.text, .slice la ln lc, .slice fa fn fc]) (hg : GoodV 5 x) (hb : Below w.heap.size w W) :
    TstP w (.returned (.tuple #[.agg #[.string nm, .int .i64 x.kind, .int .i64 x.int, .string x.text, .slice la ln lc, .slice fa fn fc], .bool true])) ((((((W.setCell ⟨w.heap.size, 0, none⟩ (.string nm)).setCell ⟨w.heap.size, 1, none⟩ (.int .i64 x.kind)).setCell ⟨w.heap.size, 2, none⟩ (.int .i64 x.int)).setCell ⟨w.heap.size, 3, none⟩ (.string x.text)).setCell ⟨w.heap.size, 4, none⟩ (.slice la ln lc)).setCell ⟨w.heap.size, 5, none⟩ (.slice fa fn fc)) := by
  have hs := only6 W w.heap.size (.string nm) (.int .i64 x.kind) (.int .i64 x.int) (.string x.text) (.slice la ln lc) (.slice fa fn fc)
  exact ⟨nm, x, la, ln, lc, fa, fn, fc, rfl, hn, (KV 5).mono (fun k hk => Nat.le_of_lt hk) (Knd.only hx hs (fun j hj he => by omega)), hg, bel_only hb hb.size hs (fun j he => by omega)⟩

theorem only15 (w : World) (g : Nat) (v1 v2 v3 v4 v5 : Value) : Only (fun j => j = g) w (((((w.setCell ⟨g, 1, none⟩ v1).setCell ⟨g, 2, none⟩ v2).setCell ⟨g, 3, none⟩ v3).setCell ⟨g, 4, none⟩ v4).setCell ⟨g, 5, none⟩ v5) :=
  Only.set (S := fun j => j = g) (p := ⟨g, 5, none⟩) (Only.set (S := fun j => j = g) (p := ⟨g, 4, none⟩) (Only.set (S := fun j => j = g) (p := ⟨g, 3, none⟩) (Only.set (S := fun j => j = g) (p := ⟨g, 2, none⟩) (Only.set (S := fun j => j = g) (p := ⟨g, 1, none⟩) (Only.refl _ w) rfl v1) rfl v2) rfl v3) rfl v4) rfl v5
/-- A list of two values in one block. -/
theorem two_row {d : Nat} {w : World} {ok : Nat → Prop} {g : Nat} {y z : Val} (la2 : Option Addr) (ln2 lc2 : Nat) (fa2 : Option Addr) (fn2 fc2 : Nat) {la3 : Option Addr} {ln3 lc3 : Nat} {fa3 : Option Addr} {fn3 fc3 : Nat} (h : w.heap[g]? = some (.cells #[.int .i64 y.kind, .int .i64 y.int, .string y.text, .slice la2 ln2 lc2, .slice fa2 fn2 fc2, .int .i64 z.kind, .int .i64 z.int, .string z.text, .slice la3 ln3 lc3, .slice fa3 fn3 fc3] 29 (0, 0))) (ok' : ok g)
    (hy : (KV d).R w ok y [.int .i64 y.kind, .int .i64 y.int, .string y.text, .slice la2 ln2 lc2, .slice fa2 fn2 fc2]) (hz : (KV d).R w ok z [.int .i64 z.kind, .int .i64 z.int, .string z.text, .slice la3 ln3 lc3, .slice fa3 fn3 fc3]) : Row (KV d) w ok (some ⟨g, 0, none⟩) 2 2 [y, z] := by
  refine Row.of_block (K := KV d) [[.int .i64 y.kind, .int .i64 y.int, .string y.text, .slice la2 ln2 lc2, .slice fa2 fn2 fc2], [.int .i64 z.kind, .int .i64 z.int, .string z.text, .slice la3 ln3 lc3, .slice fa3 fn3 fc3]] [y, z] h rfl ok' (show 2 ≤ maxLen by decide) rfl (fun i x hx => ?_)
  rcases i with _ | _ | i
  · simp at hx; subst hx; exact ⟨_, rfl, hy⟩
  · simp at hx; subst hx; exact ⟨_, rfl, hz⟩
  · simp at hx

set_option maxRecDepth 100000 in
set_option maxHeartbeats 4000000 in
theorem tst_calls (a b : Int) (a0 : 0 ≤ a) (b0 : 0 ≤ b) (b1 : b ≤ 255) (w : World) (G : TeG w) :
    Calls Tryd.prog 34 #[.int .u8 a, .int .u8 b] w (TstP w) := by
  have e8 : 0 ≤ a.tmod 8 := by rw [Int.tmod_eq_emod_of_nonneg a0]; omega
  have e9 : a.tmod 8 < 8 := by rw [Int.tmod_eq_emod_of_nonneg a0]; omega
  obtain ⟨nm, hs⟩ : ∃ s, testsOf[(a.tmod 8).toNat]? = some s := ⟨_, List.getElem?_eq_getElem (by have : testsOf.length = 8 := rfl; omega)⟩
  have HN := Ap.of (List.mem_of_getElem? hs)
  have HTC := Ap.of (fun W (hW : Below w.heap.size w W) => (G.below hW).tests _ _ hs)
  have HSM := Ap.of (fun (c : Int) (c0 : 0 ≤ c) (c1 : c ≤ 255) W (hW : Below w.heap.size w W) => small_calls c c0 c1 W (G.below hW).laid)
  have hlo : 2 < w.heap.size := Nat.lt_of_lt_of_le (by decide) G.laid.lo
  have tc := G.tests _ _ hs
  clear hs G
  go_enter Tryd.func34, Tryd.ntmps34
  go_upto_region 1 with fail
  go_cut [6] (fun s6 wx => ∃ (gB : Nat) (x : Val) (la : Option Addr) (ln lc : Nat) (fa : Option Addr) (fn fc : Nat), s6 = .pointer (some ⟨gB, 0, none⟩) ∧ Ap (T6 w wx gB nm x la ln lc fa fn fc))
  case first =>
    go_region_with (go_at_call 33; refine (HSM.out b b0 b1 _ (by first | exact bel_step (bel_alloc _ _) (bel_draw _) | exact bel_step (bel_step (bel_alloc _ _) (bel_alloc _ _)) (bel_draw _))).mono ?_; rintro e w3 ⟨x, la, ln, lc, fa, fn, fc, rfl, hx, hg, hb⟩; (first | (have b6 := blk_bel (blk_draw (blk_new (w := w.alloc (.cells #[.string ⟨#[]⟩, .int .i64 0, .int .i64 0, .string ⟨#[]⟩, .slice none 0 0, .slice none 0 0] 69)) (k := w.heap.size + 1) (o := .cells #[.string ⟨#[]⟩, .int .i64 0, .int .i64 0, .string ⟨#[]⟩, .slice none 0 0, .slice none 0 0] 69) (by simp))) hb; have c6 := blk_cells b6; have f6 := blk_free b6; have l6 := blk_lt b6; clear b6) | skip); (have HX := Ap.of hx); (have HG := Ap.of hg); (have HB := Ap.of hb); (have tc3 := HTC.out w3 (bel_step (by first | exact bel_step (bel_alloc _ _) (bel_draw _) | exact bel_step (bel_step (bel_alloc _ _) (bel_alloc _ _)) (bel_draw _)) hb)); (have hlo3 : 2 < w3.heap.size := by have h1 := hb.size; simp at h1; omega); clear hx hg hb)
    all_goals
      go_wp2_with fail
      go_meet
      first
      | (have _t := c6
         exact ⟨_, x, la, ln, lc, fa, fn, fc, rfl, Ap.of (T6.b (nm := nm) HX.out HG.out HB.out)⟩)
      | exact ⟨_, x, la, ln, lc, fa, fn, fc, rfl, Ap.of (T6.a (nm := nm) HX.out HG.out HB.out)⟩
  case rest =>
    obtain ⟨gB, x, la, ln, lc, fa, fn, fc, rfl, HT⟩ := hcut
    clear tc e8 e9
    have g6 := blk_cells HT.out.2.1
    have f6 := blk_free HT.out.2.1
    have l6 := blk_lt HT.out.2.1
    have g4 := blk_cells HT.out.2.2.1
    have f4 := blk_free HT.out.2.2.1
    have l4 := blk_lt HT.out.2.2.1
    have n46 := HT.out.1
    have hD : (nm.toList = [36, 105, 110] ∧ ¬ nm.toList = [36, 101, 120, 105, 115, 116, 115]) ∨ (¬ nm.toList = [36, 105, 110] ∧ nm.toList = [36, 101, 120, 105, 115, 116, 115]) ∨ (¬ nm.toList = [36, 105, 110] ∧ ¬ nm.toList = [36, 101, 120, 105, 115, 116, 115]) := by
      by_cases h : nm.toList = [36, 105, 110]
      · exact .inl ⟨h, by rw [h]; decide⟩
      · by_cases k : nm.toList = [36, 101, 120, 105, 115, 116, 115]
        · exact .inr (.inl ⟨h, k⟩)
        · exact .inr (.inr ⟨h, k⟩)
    have h7 : decide (0 < b % 7) = true ∨ decide (0 < b % 7) = false := by cases decide (0 < b % 7) <;> simp
    rcases hD with ⟨d1, d2⟩ | ⟨d1, d2⟩ | ⟨d1, d2⟩ <;> rcases h7 with t7 | t7
    case inl.inl =>
      go_wp2_with fail
      refine (HSM.out b b0 b1 _ HT.out.2.2.2.2.2).mono ?_
      rintro e w5 ⟨y, la2, ln2, lc2, fa2, fn2, fc2, rfl, hy, hgy, hb5⟩
      have B6 := Ap.of (blk_bel HT.out.2.1 hb5)
      have B4 := Ap.of (blk_bel HT.out.2.2.1 hb5)
      have HB5 := Ap.of (bel_step HT.out.2.2.2.2.2 hb5)
      have HY := Ap.of hy
      have HGY := Ap.of hgy
      have hb5s := Ap.of hb5.size
      clear hy hgy hb5 g6 f6 g4 f4
      have e20 : 0 ≤ b / 2 := by omega
      have e21 : b / 2 ≤ 255 := by omega
      go_wp2_with fail
      refine (HSM.out (b / 2) e20 e21 _ HB5.out).mono ?_
      rintro e w6 ⟨z, la3, ln3, lc3, fa3, fn3, fc3, rfl, hz, hgz, hb6⟩
      have B66 := Ap.of (blk_bel B6.out hb6)
      have B46 := Ap.of (blk_bel B4.out hb6)
      have HB6 := Ap.of (bel_step HB5.out hb6)
      have HY6 := Ap.of (Knd.below HY.out hb6)
      have HZ := Ap.of hz
      have HGZ := Ap.of hgz
      have HSZ := Ap.of (And.intro hb6.size (And.intro l6 (And.intro n46 hb5s.out)))
      have g6 := blk_cells B66.out
      have f6 := blk_free B66.out
      have l6' : gB < w6.heap.size := blk_lt B66.out
      have g4 := blk_cells B46.out
      have f4 := blk_free B46.out
      have l4' : w.heap.size < w6.heap.size := blk_lt B46.out
      clear hz hgz hb6
      go_wp2_with fail
      have hs := (only15 w6 gB (.int .i64 4) (.int .i64 0) (.string ⟨#[]⟩) (.slice (some ⟨w6.heap.size, 0, none⟩) 2 2) (.slice none 0 0)).mono (S' := fun j => j = gB ∨ j = w.heap.size) (fun _ h => .inl h)
      have hs2 := hs.trans (only6 _ w.heap.size (.string nm) (.int .i64 4) (.int .i64 0) (.string ⟨#[]⟩) (.slice (some ⟨w6.heap.size, 0, none⟩) 2 2) (.slice none 0 0)) (fun _ h => .inl (.inr h))
      have hsa := hs2.alloc (.cells #[.int .i64 y.kind, .int .i64 y.int, .string y.text, .slice la2 ln2 lc2, .slice fa2 fn2 fc2, .int .i64 z.kind, .int .i64 z.int, .string z.text, .slice la3 ln3 lc3, .slice fa3 fn3 fc3] 29)
      have hn := HSZ.out
      have hw := HT.out.2.2.2.2.2.size
      exact bodyPost_ret (v := .tuple #[.agg #[.string nm, .int .i64 4, .int .i64 0, .string ⟨#[]⟩, .slice (some ⟨w6.heap.size, 0, none⟩) 2 2, .slice none 0 0], .bool true]) (by simp [results, Tryd.results34, go_sem, g4, l4']) rfl
        ⟨nm, .mk 4 0 ⟨#[]⟩ [y, z] [], some ⟨w6.heap.size, 0, none⟩, 2, 2, none, 0, 0, rfl, HN.out,
          ⟨some ⟨w6.heap.size, 0, none⟩, 2, 2, none, 0, 0, rfl, i64_4, i64_0, empty_small, two_row (d := 4) la2 ln2 lc2 fa2 fn2 fc2 (blk_new (by simp)) (by omega)
            ((KV 4).mono (fun k hk => by have h2 : wc.heap.size ≤ k := hk; omega) (Knd.only HY6.out hsa (fun j hj he => by have h2 : wc.heap.size ≤ j := hj; omega)))
            ((KV 4).mono (fun k hk => by have h2 : w5.heap.size ≤ k := hk; omega) (Knd.only HZ.out hsa (fun j hj he => by have h2 : w5.heap.size ≤ j := hj; omega))), Row.nil _ _ _⟩,
          ⟨c04, c45, i64_0, empty_word, (by show 2 ≤ 3; decide), fun v hv => by
            rcases List.mem_cons.1 hv with rfl | hv
            · exact HGY.out
            · obtain rfl := List.mem_singleton.1 hv
              exact HGZ.out, by simp [Val.fields], fun p hp => by simp [Val.fields] at hp, .inr (.inr rfl), .inr rfl, .inl rfl, .inr rfl, fun h => by cases h⟩,
          bel_only HB6.out HB6.out.size hsa (fun j he => by omega)⟩
    case inr.inl.inl =>
      have HSZ := Ap.of n46
      have m0 : (0 : Int) ≤ b % 2 := by omega
      have m1 : b % 2 ≤ 1 := by omega
      go_wp2_with fail
      have hs := (only15 wc gB (.int .i64 1) (.int .i64 (b % 2)) (.string ⟨#[]⟩) (.slice none 0 0) (.slice none 0 0)).mono (S' := fun j => j = gB ∨ j = w.heap.size) (fun _ h => .inl h)
      have hs2 := hs.trans (only6 _ w.heap.size (.string nm) (.int .i64 1) (.int .i64 (b % 2)) (.string ⟨#[]⟩) (.slice none 0 0) (.slice none 0 0)) (fun _ h => .inl (.inr h))
      exact bodyPost_ret (v := .tuple #[.agg #[.string nm, .int .i64 1, .int .i64 (b % 2), .string ⟨#[]⟩, .slice none 0 0, .slice none 0 0], .bool true]) (by simp [results, Tryd.results34, go_sem, g4]) rfl
        ⟨nm, .mk 1 (b % 2) ⟨#[]⟩ [] [], none, 0, 0, none, 0, 0, rfl, HN.out, flat_R 4 _ _ 1 _ _ (inI64_small (by decide) (by decide)) (inI64_small (by omega) (by omega)) (by unfold maxLen; decide),
          flat_good 4 1 _ _ (by decide) (by decide) (inI64_small (by omega) (by omega)) empty_word (.inl rfl) (.inr rfl) (fun _ => by omega), bel_only HT.out.2.2.2.2.2 HT.out.2.2.2.2.2.size hs2 (fun j he => by have := HSZ.out; omega)⟩
    all_goals (
      go_wp2_with fail
      exact bodyPost_ret (v := .tuple #[.agg #[.string nm, .int .i64 x.kind, .int .i64 x.int, .string x.text, .slice la ln lc, .slice fa fn fc], .bool true]) (by simp [results, Tryd.results34, go_sem, g4]) rfl (tst_end HN.out ((KV 5).mono (fun k hk => hk.1) (KV_le (by decide) _ _ _ _ HT.out.2.2.2.1)) (GoodV_le 4 _ HT.out.2.2.2.2.1) HT.out.2.2.2.2.2))
end Go.Proofs.YtlomieopppndeaaDoor
