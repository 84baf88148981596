import Derived.Test.YtlomieopppndeaaDoorCondWalk
import Derived.Test.YtlomieopppndeaaDoorFieldWalk
import Derived.Test.YtlomieopppndeaaDoorDoc16
import Derived.Test.YtlomieopppndeaaDoorPlanAwake
import Derived.Test.YtlomieopppndeaaDoorLBounds
/- roundelaylaw17.Of: the filter of bytes. -/
namespace Go.Proofs.YtlomieopppndeaaDoor
open Go.RowKit
attribute [local go_sem] max2_int min2_int

/-- What the statements on plans read of the program's own variables. -/
structure PlG (w : World) : Prop where
  fil : FilG w
  te : TeG w
theorem PlG.below {w w' : World} (h : PlG w) (hb : Below w.heap.size w w') : PlG w' := ⟨h.fil.below hb, h.te.below hb⟩
def Of17P (w : World) (e : Ending) (w' : World) : Prop :=
  ∃ (f : Flt) (la : Option Addr) (ln lc : Nat) (fa : Option Addr) (fn fc : Nat) (sa : Option Addr) (sn sc : Nat) (is : Bool), e = .returned (.tuple #[.agg #[.int .i64 f.op, .string f.path, .int .i64 f.val.kind, .int .i64 f.val.int, .string f.val.text, .slice la ln lc, .slice fa fn fc, .slice sa sn sc], .bool is]) ∧ Below w.heap.size w w' ∧ (is = true → ∃ v, DocV 3 v ∧ parseD 11 v = .ok f ∧ (KF 11 13).R w' (fun _ => True) f [.int .i64 f.op, .string f.path, .int .i64 f.val.kind, .int .i64 f.val.int, .string f.val.text, .slice la ln lc, .slice fa fn fc, .slice sa sn sc])
theorem R_lt17 {α : Type} {K : Knd α} {w : World} {ok : Nat → Prop} {x : α} {cs : List Value} (h : K.R w ok x cs) : K.R w (fun k => k < w.heap.size) x cs := K.mono (fun _ hk => hk.2) (K.bound h)

set_option maxRecDepth 100000 in
set_option maxHeartbeats 8000000 in
theorem of17_calls (A0 : Option Addr) (n0 c0 : Nat) (ok : Nat → Prop) (w : World) (hok : ∀ k, ok k → k < w.heap.size) (b0 : Bs w ok A0 n0 c0) (G : PlG w) : Calls Tryd.prog 10 #[.slice A0 n0 c0] w (Of17P w) := by
  obtain ⟨N, hN⟩ : ∃ N : Nat, min (n0 : Int) 80 = (N : Int) := ⟨min n0 80, by omega⟩
  have hNl : N ≤ n0 := by omega
  have hrun0 := cutTo A0 n0 c0 N b0.1 b0.2.1 b0.2.2.1 hNl
  have B0 := Ap.of (b0.take hNl)
  have hn0 := b0.1
  have hc0 := b0.2.1
  have GG := Ap.of G
  have HOK := Ap.of hok
  have HB1 := Ap.of (bel_alloc w (.cells #[.int .i64 0, .string ⟨#[]⟩, .int .i64 0, .int .i64 0, .string ⟨#[]⟩, .slice none 0 0, .slice none 0 0, .slice none 0 0] 32))
  have BR1 := Ap.of (blk_new (w := w) (k := w.heap.size) (o := .cells #[.int .i64 0, .string ⟨#[]⟩, .int .i64 0, .int .i64 0, .string ⟨#[]⟩, .slice none 0 0, .slice none 0 0, .slice none 0 0] 32) rfl)
  clear G b0 hok
  go_enter Tryd.func10, Tryd.ntmps10
  go_wp2_with fail
  refine (doc16_calls 3 (by decide) (by decide) A0 N c0 _ ok (fun k hk => Nat.lt_of_lt_of_le (HOK.out k hk) HB1.out.size) (GG.out.te.below HB1.out) (B0.out.below HB1.out)).mono ?_
  rintro e w2 ⟨v, la, ln, lc, fa, fn, fc, A5, n5, c5, rfl, hv, hdv, _, hb⟩
  have hb2 := bel_step HB1.out (bel_step hb (bel_alloc w2 (.cells #[.int .i64 v.kind, .int .i64 v.int, .string v.text, .slice la ln lc, .slice fa fn fc] 29)))
  have HV := Ap.of ((KV 11).mono (ok' := fun k => w.heap.size < k ∧ k < (w2.alloc (.cells #[.int .i64 v.kind, .int .i64 v.int, .string v.text, .slice la ln lc, .slice fa fn fc] 29)).heap.size) (fun k hk => ⟨by have h1 := hk.1; simp at h1; omega, hk.2⟩) ((KV 11).bound (Knd.below hv (bel_alloc w2 (.cells #[.int .i64 v.kind, .int .i64 v.int, .string v.text, .slice la ln lc, .slice fa fn fc] 29)))))
  have HDV := Ap.of hdv
  have G2 := Ap.of (GG.out.below hb2)
  have HB2 := Ap.of hb2
  have BV := Ap.of (blk_new (w := w2) (k := w2.heap.size) (o := .cells #[.int .i64 v.kind, .int .i64 v.int, .string v.text, .slice la ln lc, .slice fa fn fc] 29) rfl)
  have BR2 := Ap.of (blk_bel (blk_bel BR1.out hb) (bel_alloc w2 (.cells #[.int .i64 v.kind, .int .i64 v.int, .string v.text, .slice la ln lc, .slice fa fn fc] 29)))
  clear hv hdv hb hb2 hrun0
  go_upto_region 2 with fail
  generalize w2.alloc (.cells #[.int .i64 v.kind, .int .i64 v.int, .string v.text, .slice la ln lc, .slice fa fn fc] 29) = U2 at *
  generalize w2.heap.size = g7 at *
  have c7 := blk_cells BV.out
  have l7 := blk_lt BV.out
  have HPX := Ap.of (filter_calls 10 11 11 v la ln lc fa fn fc (fun k => w.heap.size < k ∧ k < U2.heap.size) U2 (by decide) (by decide) (fun k hk => hk.2) (nok_doc 3 v HDV.out) G2.out.fil HV.out)
  go_wp2_with fail
  refine HPX.out.mono ?_
  rintro e w4 ⟨f, pa, pb, pc, pd, pe, pf, pg, ph, pi, er1, rfl, hR, hb, hd⟩
  have hb4 := bel_step hb (bel_alloc w4 (.cells #[.int .i64 f.op, .string f.path, .int .i64 f.val.kind, .int .i64 f.val.int, .string f.val.text, .slice pa pb pc, .slice pd pe pf, .slice pg ph pi] 32))
  have BF := Ap.of (blk_new (w := w4) (k := w4.heap.size) (o := .cells #[.int .i64 f.op, .string f.path, .int .i64 f.val.kind, .int .i64 f.val.int, .string f.val.text, .slice pa pb pc, .slice pd pe pf, .slice pg ph pi] 32) rfl)
  have BR4 := Ap.of (blk_bel BR2.out hb4)
  have HB4 := Ap.of (bel_step HB2.out hb4)
  have HR4 := Ap.of (Knd.below hR (bel_alloc w4 (.cells #[.int .i64 f.op, .string f.path, .int .i64 f.val.kind, .int .i64 f.val.int, .string f.val.text, .slice pa pb pc, .slice pd pe pf, .slice pg ph pi] 32)))
  have HER := Ap.of (show (er1 = .nilIface ∧ parseD 11 v = .ok f) ∨ ∃ p, er1 = .iface 88 p by
    rcases hd with ⟨h1, h2⟩ | ⟨_, _, g, _, _, h, _⟩
    · exact .inl ⟨h2, h1⟩
    · exact .inr ⟨_, h⟩)
  have HSU := Ap.of (show w.heap.size + 1 ≤ U2.heap.size by have := HB2.out.size; have := blk_lt BR2.out; omega)
  clear hR hb hb4 hd c7 l7 HPX BR1 BR2
  go_upto_region 3 with fail
  generalize w4.alloc (.cells #[.int .i64 f.op, .string f.path, .int .i64 f.val.kind, .int .i64 f.val.int, .string f.val.text, .slice pa pb pc, .slice pd pe pf, .slice pg ph pi] 32) = U4 at *
  generalize w4.heap.size = g8 at *
  have HRX := Ap.of (show ∀ W, Only (fun j => j = w.heap.size) U4 W → (KF 11 13).R W (fun _ => True) f [.int .i64 f.op, .string f.path, .int .i64 f.val.kind, .int .i64 f.val.int, .string f.val.text, .slice pa pb pc, .slice pd pe pf, .slice pg ph pi] from fun W hW => (KF 11 13).mono (fun _ _ => trivial) (Knd.only HR4.out hW (fun j hj he => by have := HSU.out; rcases hj with h | h <;> omega)))
  have c8 := blk_cells BF.out
  have l8 := blk_lt BF.out
  have cR := blk_cells BR4.out
  have fR := blk_free BR4.out
  have lR := blk_lt BR4.out
  have hs8 := (only8 U4 w.heap.size (.int .i64 f.op) (.string f.path) (.int .i64 f.val.kind) (.int .i64 f.val.int) (.string f.val.text) (.slice pa pb pc) (.slice pd pe pf) (.slice pg ph pi)).draw
  have HS8 := Ap.of hs8
  clear hs8
  rcases HER.out with ⟨rfl, hp⟩ | ⟨p, rfl⟩
  · have HP := Ap.of hp
    clear hp HR4
    go_region
    all_goals
      go_wp2_with fail
      exact bodyPost_ret (v := .tuple #[.agg #[.int .i64 f.op, .string f.path, .int .i64 f.val.kind, .int .i64 f.val.int, .string f.val.text, .slice pa pb pc, .slice pd pe pf, .slice pg ph pi], .bool true]) (by simp [results, Tryd.results10, go_sem, cR]) rfl
        ⟨f, pa, pb, pc, pd, pe, pf, pg, ph, pi, true, rfl, bel_only HB4.out HB4.out.size HS8.out (fun j hj => by omega), fun _ => ⟨v, HDV.out, HP.out, HRX.out _ HS8.out⟩⟩
  · clear HR4
    go_region
    all_goals
      go_wp2_with fail
      exact bodyPost_ret (v := .tuple #[.agg #[.int .i64 f.op, .string f.path, .int .i64 f.val.kind, .int .i64 f.val.int, .string f.val.text, .slice pa pb pc, .slice pd pe pf, .slice pg ph pi], .bool false]) (by simp [results, Tryd.results10, go_sem, cR]) rfl
        ⟨f, pa, pb, pc, pd, pe, pf, pg, ph, pi, false, rfl, bel_only HB4.out HB4.out.size HS8.out (fun j hj => by omega), fun h => by cases h⟩
end Go.Proofs.YtlomieopppndeaaDoor
/- PlanBounds' walk. -/
namespace Go.Proofs.YtlomieopppndeaaDoor
open Go.RowKit

def pathsOf : List ByteArray := [⟨#[97]⟩, ⟨#[97, 46, 98]⟩, ⟨#[98]⟩, ⟨#[99, 46, 48]⟩, ⟨#[110]⟩, ⟨#[120]⟩]
structure PbG (w : World) : Prop where
  pl : PlG w
  pa : ∀ (j : Nat) (s : ByteArray), pathsOf[j]? = some s → w.cell? ⟨0, j, none⟩ = some (.string s)
theorem PbG.below {w w' : World} (h : PbG w) (hb : Below w.heap.size w w') : PbG w' :=
  ⟨h.pl.below hb, fun j s hj => (World.cell?_of_block (w := w) (hb.block 0 (Nat.lt_of_lt_of_le (by decide) h.pl.fil.par.lo))).trans (h.pa j s hj)⟩
set_option maxRecDepth 100000 in
set_option maxHeartbeats 4000000 in
theorem planbounds_calls (A0 : Option Addr) (n0 c0 : Nat) (at_ : Int) (w : World) (b0 : Bs w (fun k => k < w.heap.size) A0 n0 c0) (ba : 0 ≤ at_ ∧ at_ ≤ 255) (G : PbG w) :
    Calls Tryd.prog 3 #[.slice A0 n0 c0, .int .u8 at_] w fun e w' => e = .returned (.bool true) ∧ Below w.heap.size w w' := by
  obtain ⟨K, hK, hK6⟩ : ∃ K : Nat, at_ % 6 = (K : Int) ∧ K < 6 := ⟨(at_ % 6).toNat, by omega, by omega⟩
  have hKb : (K : Int) < 6 := by omega
  obtain ⟨p, hp⟩ : ∃ p, pathsOf[K]? = some p := ⟨_, List.getElem?_eq_getElem (by have : pathsOf.length = 6 := rfl; omega)⟩
  have HP := Ap.of hp
  have B0 := Ap.of b0
  have GG := Ap.of G
  have h255 := ba.2
  have h00 := ba.1
  clear b0 G hp ba
  go_enter Tryd.func3, Tryd.ntmps3
  go_wp2_with fail
  refine (pawake_calls w GG.out.pl.fil.par).mono ?_
  rintro e w1 ⟨rfl, hb⟩
  have HB1 := Ap.of hb
  have G1 := Ap.of (GG.out.below hb)
  clear hb
  go_wp2_with fail
  refine (of17_calls A0 n0 c0 _ w1 (fun k hk => Nat.lt_of_lt_of_le hk HB1.out.size) (B0.out.below HB1.out) G1.out.pl).mono ?_
  rintro e w2 ⟨f, la, ln, lc, fa, fn, fc, sa, sn, sc, is, rfl, hb, hok⟩
  have hbU := bel_step hb (bel_alloc w2 (.cells #[.int .i64 f.op, .string f.path, .int .i64 f.val.kind, .int .i64 f.val.int, .string f.val.text, .slice la ln lc, .slice fa fn fc, .slice sa sn sc] 32))
  have HBU := Ap.of (bel_step HB1.out hbU)
  have GU := Ap.of (G1.out.below hbU)
  have BF := Ap.of (blk_new (w := w2) (k := w2.heap.size) (o := .cells #[.int .i64 f.op, .string f.path, .int .i64 f.val.kind, .int .i64 f.val.int, .string f.val.text, .slice la ln lc, .slice fa fn fc, .slice sa sn sc] 32) rfl)
  have HOK := Ap.of hok
  clear hb hok hbU
  cases is with
  | false =>
    go_wp2_with fail
    go_ret
    exact ⟨rfl, HBU.out⟩
  | true =>
    obtain ⟨v, hdv, hpv, hR⟩ := HOK.out rfl
    have HR := Ap.of (Knd.below hR (bel_alloc w2 (.cells #[.int .i64 f.op, .string f.path, .int .i64 f.val.kind, .int .i64 f.val.int, .string f.val.text, .slice la ln lc, .slice fa fn fc, .slice sa sn sc] 32)))
    have HS := Ap.of (SubsN_le (by decide : 9 ≤ 13) (doc_subs 3 11 v f hdv hpv))
    have HC := Ap.of (doc_conds 3 11 v f hdv hpv 13)
    clear hdv hpv hR HOK
    go_upto_region 6 with fail
    generalize w2.alloc (.cells #[.int .i64 f.op, .string f.path, .int .i64 f.val.kind, .int .i64 f.val.int, .string f.val.text, .slice la ln lc, .slice fa fn fc, .slice sa sn sc] 32) = U at *
    generalize w2.heap.size = g5 at *
    have cp := GU.out.pa K p HP.out
    have lp := World.block_lt_of_cell? _ _ cp
    have cf := blk_cells BF.out
    have lf := blk_lt BF.out
    have HB := Ap.of (bounds_calls 13 11 f la ln lc fa fn fc sa sn sc p U (by decide) (by decide) HS.out HC.out GU.out.pl.fil.par HR.out)
    have HL := Ap.of (fun W (hW : Below U.heap.size U W) => lbounds_calls 13 11 f la ln lc fa fn fc sa sn sc p W (by decide) (by decide) HS.out HC.out (GU.out.below hW).pl.fil.par (Knd.below HR.out hW))
    unfold BndP at HB HL
    generalize boundsD 11 13 f p = b at *
    obtain ⟨b1, b2, b3, b4⟩ := b
    go_wp2_with fail
    refine HB.out.mono ?_
    rintro e w5 ⟨rfl, hb⟩
    have hb5 := bel_step hb (bel_alloc w5 (.cells #[.string b1, .string b2, .bool false] 37))
    have BR := Ap.of (blk_new (w := w5) (k := w5.heap.size) (o := .cells #[.string b1, .string b2, .bool false] 37) rfl)
    have bf5 := blk_bel BF.out hb
    have cf5 := blk_cells bf5
    have lf5 := blk_lt bf5
    have HL5 := Ap.of (HL.out _ hb5)
    have HB5 := Ap.of (bel_step HBU.out hb5)
    clear hb hb5 bf5 cf lf cp lp HB HL
    go_wp2_with fail
    refine HL5.out.mono ?_
    rintro e w7 ⟨rfl, hb⟩
    have br7 := blk_bel BR.out hb
    have cr7 := blk_cells br7
    have lr7 := blk_lt br7
    have hb7 := bel_step hb (bel_alloc w7 (.cells #[.string b1, .string b2, .bool false] 37))
    have HB7 := Ap.of (bel_step HB5.out hb7)
    have hg := gdRange
    have hq : ∀ w, (Op.equalIn 10000 37 (.agg #[.string b1, .string b2, .bool false]) (.agg #[.string b1, .string b2, .bool false])).run Tryd.prog w = .ok true w := fun w => by rw [eqRange]; simp
    clear hb hb7 br7
    cases b3 <;> cases b4
    all_goals
      go_wp2_with fail
      go_ret
      exact ⟨rfl, HB7.out⟩
end Go.Proofs.YtlomieopppndeaaDoor
