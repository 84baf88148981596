/- FilterJoins' walk. -/
import Derived.Test.YtlomieopppndeaaGreatDoorFilAwake
import Derived.Test.YtlomieopppndeaaGreatDoorDoc16
import Derived.Deep.RegionHeld3
namespace Go.Proofs.YtlomieopppndeaaGreatDoor
open Go.RowKit
attribute [local go_sem] max2_int min2_int

/-- What statements on filters of bytes read of the program's own variables. -/
structure JoG (w : World) : Prop where
  aw : AwG w
  te : TeG w
theorem JoG.below {w w' : World} (h : JoG w) (hb : Below w.heap.size w w') : JoG w' := ⟨h.aw.below hb, h.te.below hb⟩
theorem R_lt {α : Type} {K : Knd α} {w : World} {ok : Nat → Prop} {x : α} {cs : List Value} (h : K.R w ok x cs) : K.R w (fun k => k < w.heap.size) x cs := K.mono (fun _ hk => hk.2) (K.bound h)
theorem and_op : namedI ⟨#[36, 97, 110, 100]⟩ = 0 := by decide +kernel
theorem or_op : namedI ⟨#[36, 111, 114]⟩ = 1 := by decide +kernel
/-- Doc, two deep. -/
theorem doc2_calls (A : Option Addr) (n c : Nat) (w : World) (ok : Nat → Prop) (hok : ∀ k, ok k → k < w.heap.size) (G : TeG w) (hB : Bs w ok A n c) :
    Calls Tryz.prog 27 #[.slice A n c, .int .i64 2] w fun e w' => ∃ (x : Val) (la : Option Addr) (ln lc : Nat) (fa : Option Addr) (fn fc : Nat) (A : Option Addr) (n c : Nat), e = .returned (.tuple #[.agg #[.int .i64 x.kind, .int .i64 x.int, .string x.text, .slice la ln lc, .slice fa fn fc], .slice A n c]) ∧ (KV 9).R w' (fun k => k < w'.heap.size) x [.int .i64 x.kind, .int .i64 x.int, .string x.text, .slice la ln lc, .slice fa fn fc] ∧ NOk 9 x ∧ Below w.heap.size w w' :=
  (doc16_calls 2 (by decide) (by decide) A n c w ok hok G hB).mono fun _ _ ⟨x, la, ln, lc, fa, fn, fc, A, n, c, he, hx, hd, _, hb⟩ => ⟨x, la, ln, lc, fa, fn, fc, A, n, c, he, R_lt hx, nok_doc 2 x hd, hb⟩
/-- A filter that was read, met or not. -/
theorem met_calls (d : Nat) (f : Flt) (la : Option Addr) (ln lc : Nat) (fa : Option Addr) (fn fc : Nat) (sa : Option Addr) (sn sc : Nat) (doc : Val) (la2 : Option Addr) (ln2 lc2 : Nat) (fa2 : Option Addr) (fn2 fc2 : Nat) (W : World) (hF : Few 4 doc) (hO : FOk d f) (G : AwG W) (hf : (KF 11 d).R W (fun _ => True) f [.int .i64 f.op, .string f.path, .int .i64 f.val.kind, .int .i64 f.val.int, .string f.val.text, .slice la ln lc, .slice fa fn fc, .slice sa sn sc]) (hx : (KV 4).R W (fun _ => True) doc [.int .i64 doc.kind, .int .i64 doc.int, .string doc.text, .slice la2 ln2 lc2, .slice fa2 fn2 fc2]) :
    Calls Tryz.prog 25 #[.agg #[.int .i64 f.op, .string f.path, .int .i64 f.val.kind, .int .i64 f.val.int, .string f.val.text, .slice la ln lc, .slice fa fn fc, .slice sa sn sc], .agg #[.int .i64 doc.kind, .int .i64 doc.int, .string doc.text, .slice la2 ln2 lc2, .slice fa2 fn2 fc2]] W fun e w' => e = .returned (.bool (matchD 11 d f doc)) ∧ Below W.heap.size W w' :=
  match_calls 9 d f la ln lc fa fn fc sa sn sc doc la2 ln2 lc2 fa2 fn2 fc2 4 W hF hO G.fil.par G.fin hf (KV_le (by decide) _ _ _ _ hx)
/-- Two values as one under a name, in memory. -/
theorem joinV_R {w : World} {ok : Nat → Prop} {g gf : Nat} {nm : ByteArray} {y z : Val} (la2 : Option Addr) (ln2 lc2 : Nat) (fa2 : Option Addr) (fn2 fc2 : Nat) {la3 : Option Addr} {ln3 lc3 : Nat} {fa3 : Option Addr} {fn3 fc3 : Nat} (hn : nm.size ≤ maxLen) (h : w.heap[g]? = some (.cells #[.int .i64 y.kind, .int .i64 y.int, .string y.text, .slice la2 ln2 lc2, .slice fa2 fn2 fc2, .int .i64 z.kind, .int .i64 z.int, .string z.text, .slice la3 ln3 lc3, .slice fa3 fn3 fc3] 28 (0, 0))) (og : ok g)
    (hf : w.heap[gf]? = some (.cells #[.string nm, .int .i64 4, .int .i64 0, .string ⟨#[]⟩, .slice (some ⟨g, 0, none⟩) 2 2, .slice none 0 0] 37 (0, 0))) (of' : ok gf)
    (hy : (KV 9).R w ok y [.int .i64 y.kind, .int .i64 y.int, .string y.text, .slice la2 ln2 lc2, .slice fa2 fn2 fc2]) (hz : (KV 9).R w ok z [.int .i64 z.kind, .int .i64 z.int, .string z.text, .slice la3 ln3 lc3, .slice fa3 fn3 fc3]) :
    (KV 11).R w ok (joinV nm y z) [.int .i64 5, .int .i64 0, .string ⟨#[]⟩, .slice none 0 0, .slice (some ⟨gf, 0, none⟩) 1 1] := by
  have hr := two_row (d := 9) la2 ln2 lc2 fa2 fn2 fc2 h og hy hz
  have h10 : (KV (9 + 1)).R w ok (.mk 4 0 ⟨#[]⟩ [y, z] []) [.int .i64 (Val.mk 4 0 ⟨#[]⟩ [y, z] []).kind, .int .i64 (Val.mk 4 0 ⟨#[]⟩ [y, z] []).int, .string (Val.mk 4 0 ⟨#[]⟩ [y, z] []).text, .slice (some ⟨g, 0, none⟩) 2 2, .slice none 0 0] :=
    ⟨some ⟨g, 0, none⟩, 2, 2, none, 0, 0, rfl, i64_4, i64_0, empty_small, hr, Row.nil _ _ _⟩
  exact one_obj (d := 9) hf of' hn h10

/-- Two filters as one: read. -/
theorem joinp_calls (nm : ByteArray) (op : Int) (hn : namedI nm = op) (h01 : op = 0 ∨ op = 1) (hs : nm.size ≤ 16) (v u : Val) (f g : Flt) (hf : parseD 10 v = .ok f) (hg : parseD 10 u = .ok g) (hv : NOk 9 v) (hu : NOk 9 u) (gf : Nat) (W : World) (G : FilG W)
    (hR : (KV 11).R W (fun _ => True) (joinV nm v u) [.int .i64 5, .int .i64 0, .string ⟨#[]⟩, .slice none 0 0, .slice (some ⟨gf, 0, none⟩) 1 1]) :
    Calls Tryz.prog 28 #[.agg #[.int .i64 5, .int .i64 0, .string ⟨#[]⟩, .slice none 0 0, .slice (some ⟨gf, 0, none⟩) 1 1]] W fun e w' => ∃ (h : Flt) (ka : Option Addr) (kb kc : Nat) (kd : Option Addr) (ke kf : Nat) (kg : Option Addr) (kh ki : Nat), e = .returned (.tuple #[.agg #[.int .i64 h.op, .string h.path, .int .i64 h.val.kind, .int .i64 h.val.int, .string h.val.text, .slice ka kb kc, .slice kd ke kf, .slice kg kh ki], .nilIface]) ∧ h = joinF op f g ∧ (KF 11 13).R w' (fun _ => True) h [.int .i64 h.op, .string h.path, .int .i64 h.val.kind, .int .i64 h.val.int, .string h.val.text, .slice ka kb kc, .slice kd ke kf, .slice kg kh ki] ∧ Below W.heap.size W w' := by
  have hp := filter_calls 10 11 11 (joinV nm v u) none 0 0 (some ⟨gf, 0, none⟩) 1 1 (fun k => k < W.heap.size) W (by decide) (by decide) (fun k hk => hk) (join_nok hs hv hu) G (R_lt hR)
  rw [join_parse (by rw [hn]; exact h01) hf hg, hn] at hp
  refine Calls.mono hp ?_
  rintro e w' ⟨h, ka, kb, kc, kd, ke, kf, kg, kh, ki, er, rfl, hR, hb, (⟨he, rfl⟩ | ⟨c, m, g, hc, _⟩)⟩
  · injection he with he
    exact ⟨h, ka, kb, kc, kd, ke, kf, kg, kh, ki, rfl, he.symm, (KF 11 13).mono (fun _ _ => trivial) hR, hb⟩
  · cases hc

set_option maxRecDepth 100000 in
set_option maxHeartbeats 8000000 in
theorem join_law_calls (A0 : Option Addr) (n0 c0 : Nat) (A1 : Option Addr) (n1 c1 : Nat) (A2 : Option Addr) (n2 c2 : Nat) (w : World) (b0 : Bs w (fun k => k < w.heap.size) A0 n0 c0) (b1 : Bs w (fun k => k < w.heap.size) A1 n1 c1) (b2 : Bs w (fun k => k < w.heap.size) A2 n2 c2) (G : JoG w) :
    Calls Tryz.prog 7 #[.slice A0 n0 c0, .slice A1 n1 c1, .slice A2 n2 c2] w fun e w' => e = .returned (.bool true) ∧ Below w.heap.size w w' := by
  obtain ⟨N, hN⟩ : ∃ N : Nat, min (n0 : Int) 60 = (N : Int) := ⟨min n0 60, by omega⟩
  have hNl : N ≤ n0 := by omega
  obtain ⟨M, hM⟩ : ∃ M : Nat, min (n1 : Int) 60 = (M : Int) := ⟨min n1 60, by omega⟩
  have hMl : M ≤ n1 := by omega
  have hrun0 := cutTo A0 n0 c0 N b0.1 b0.2.1 b0.2.2.1 hNl
  have hrun1 := cutTo A1 n1 c1 M b1.1 b1.2.1 b1.2.2.1 hMl
  have B0 := Ap.of (b0.take hNl)
  have B1 := Ap.of (b1.take hMl)
  have B2 := Ap.of b2
  have hn0 := b0.1
  have hc0 := b0.2.1
  have hn1 := b1.1
  have hc1 := b1.2.1
  have GG := Ap.of G
  clear G b0 b1 b2
  go_enter Tryz.func7, Tryz.ntmps7
  go_wp2_with fail
  refine (fawake_calls w GG.out.aw).mono ?_
  rintro e w1 ⟨rfl, hb⟩
  have HB1 := Ap.of hb
  have G1 := Ap.of (GG.out.below hb)
  clear hb
  go_wp2_with fail
  refine (doc2_calls A0 N c0 w1 _ (fun k hk => Nat.lt_of_lt_of_le hk HB1.out.size) G1.out.te (B0.out.below HB1.out)).mono ?_
  rintro e w2 ⟨v, la, ln, lc, fa, fn, fc, A5, n5, c5, rfl, hv, hnv, hb⟩
  have HV := Ap.of ((KV 9).mono (ok' := fun _ => True) (fun _ _ => trivial) (Knd.below hv (bel_alloc w2 (.cells #[.int .i64 v.kind, .int .i64 v.int, .string v.text, .slice la ln lc, .slice fa fn fc] 28))))
  have HNV := Ap.of hnv
  have hb2 := bel_step HB1.out (bel_step hb (bel_alloc w2 (.cells #[.int .i64 v.kind, .int .i64 v.int, .string v.text, .slice la ln lc, .slice fa fn fc] 28)))
  have G2 := Ap.of (GG.out.below hb2)
  have HB2 := Ap.of hb2
  have BV := Ap.of (blk_new (w := w2) (k := w2.heap.size) (o := .cells #[.int .i64 v.kind, .int .i64 v.int, .string v.text, .slice la ln lc, .slice fa fn fc] 28) rfl)
  clear hv hnv hb hb2
  go_wp2_with fail
  generalize w2.alloc (.cells #[.int .i64 v.kind, .int .i64 v.int, .string v.text, .slice la ln lc, .slice fa fn fc] 28) = U2 at *
  generalize w2.heap.size = g7 at *
  refine (doc2_calls A1 M c1 U2 _ (fun k hk => Nat.lt_of_lt_of_le hk HB2.out.size) G2.out.te (B1.out.below HB2.out)).mono ?_
  rintro e w3 ⟨u, la2, ln2, lc2, fa2, fn2, fc2, A6, n6, c6, rfl, hu, hnu, hb⟩
  have hb3 := bel_step hb (bel_alloc w3 (.cells #[.int .i64 u.kind, .int .i64 u.int, .string u.text, .slice la2 ln2 lc2, .slice fa2 fn2 fc2] 28))
  have HU := Ap.of ((KV 9).mono (ok' := fun _ => True) (fun _ _ => trivial) (Knd.below hu (bel_alloc w3 (.cells #[.int .i64 u.kind, .int .i64 u.int, .string u.text, .slice la2 ln2 lc2, .slice fa2 fn2 fc2] 28))))
  have HNU := Ap.of hnu
  have HV3 := Ap.of (Knd.below HV.out hb3)
  have BV3 := Ap.of (blk_bel BV.out hb3)
  have BU := Ap.of (blk_new (w := w3) (k := w3.heap.size) (o := .cells #[.int .i64 u.kind, .int .i64 u.int, .string u.text, .slice la2 ln2 lc2, .slice fa2 fn2 fc2] 28) rfl)
  have G3 := Ap.of (G2.out.below hb3)
  have HB3 := Ap.of (bel_step HB2.out hb3)
  have c7 := blk_cells BV3.out
  have l7 := blk_lt BV3.out
  clear hu hnu hb hb3
  generalize hU3 : w3.alloc (.cells #[.int .i64 u.kind, .int .i64 u.int, .string u.text, .slice la2 ln2 lc2, .slice fa2 fn2 fc2] 28) = U3 at *
  have hp := filter_calls 10 9 10 v la ln lc fa fn fc (fun k => k < U3.heap.size) U3 (by decide) (by decide) (fun k hk => hk) HNV.out G3.out.aw.fil (R_lt HV3.out)
  have HP := Ap.of hp
  subst hU3
  clear hp
  go_wp2_with fail
  generalize w3.alloc (.cells #[.int .i64 u.kind, .int .i64 u.int, .string u.text, .slice la2 ln2 lc2, .slice fa2 fn2 fc2] 28) = U3 at *
  generalize w3.heap.size = g9 at *
  refine HP.out.mono ?_
  rintro e w4 ⟨f, pa, pb, pc, pd, pe, pf, pg, ph, pi, er1, rfl, hR, hb, hd⟩
  have hb4 := bel_step hb (bel_alloc w4 (.cells #[.int .i64 f.op, .string f.path, .int .i64 f.val.kind, .int .i64 f.val.int, .string f.val.text, .slice pa pb pc, .slice pd pe pf, .slice pg ph pi] 42))
  have HF := Ap.of ((KF 11 11).mono (ok' := fun _ => True) (fun _ _ => trivial) (Knd.below hR (bel_alloc w4 (.cells #[.int .i64 f.op, .string f.path, .int .i64 f.val.kind, .int .i64 f.val.int, .string f.val.text, .slice pa pb pc, .slice pd pe pf, .slice pg ph pi] 42))))
  have BF := Ap.of (blk_new (w := w4) (k := w4.heap.size) (o := .cells #[.int .i64 f.op, .string f.path, .int .i64 f.val.kind, .int .i64 f.val.int, .string f.val.text, .slice pa pb pc, .slice pd pe pf, .slice pg ph pi] 42) rfl)
  have HU4 := Ap.of (Knd.below HU.out hb4)
  have HV4 := Ap.of (Knd.below HV3.out hb4)
  have BV4 := Ap.of (blk_bel BV3.out hb4)
  have BU4 := Ap.of (blk_bel BU.out hb4)
  have G4 := Ap.of (G3.out.below hb4)
  have HB4 := Ap.of (bel_step HB3.out hb4)
  have c9 := blk_cells BU4.out
  have l9 := blk_lt BU4.out
  clear hR hb hb4 HP c7 l7 HV HV3 BV BV3 G2 G3
  generalize hU4 : w4.alloc (.cells #[.int .i64 f.op, .string f.path, .int .i64 f.val.kind, .int .i64 f.val.int, .string f.val.text, .slice pa pb pc, .slice pd pe pf, .slice pg ph pi] 42) = U4 at *
  have HP := Ap.of (filter_calls 10 9 10 u la2 ln2 lc2 fa2 fn2 fc2 (fun k => k < U4.heap.size) U4 (by decide) (by decide) (fun k hk => hk) HNU.out G4.out.aw.fil (R_lt HU4.out))
  subst hU4
  rcases hd with ⟨hf, rfl⟩ | ⟨c, m, g, h1, h2, rfl, h3⟩
  case inr =>
    clear h1 h2 h3
    go_wp2_with fail
    refine HP.out.mono ?_
    rintro e w5 ⟨g', qa, qb, qc, qd, qe, qf, qg, qh, qi, er2, rfl, _, hb, _⟩
    have HB5 := Ap.of (bel_step HB4.out hb)
    clear hb
    go_wp2_with fail
    go_ret
    exact ⟨rfl, bel_step HB5.out (bel_alloc _ _)⟩
  have HFP := Ap.of hf
  clear hf
  go_wp2_with fail
  generalize w4.alloc (.cells #[.int .i64 f.op, .string f.path, .int .i64 f.val.kind, .int .i64 f.val.int, .string f.val.text, .slice pa pb pc, .slice pd pe pf, .slice pg ph pi] 42) = U4 at *
  generalize w4.heap.size = g11 at *
  refine HP.out.mono ?_
  rintro e w5 ⟨g, qa, qb, qc, qd, qe, qf, qg, qh, qi, er2, rfl, hR, hb, hd⟩
  have hb5 := bel_step hb (bel_alloc w5 (.cells #[.int .i64 g.op, .string g.path, .int .i64 g.val.kind, .int .i64 g.val.int, .string g.val.text, .slice qa qb qc, .slice qd qe qf, .slice qg qh qi] 42))
  have HG := Ap.of ((KF 11 11).mono (ok' := fun _ => True) (fun _ _ => trivial) (Knd.below hR (bel_alloc w5 (.cells #[.int .i64 g.op, .string g.path, .int .i64 g.val.kind, .int .i64 g.val.int, .string g.val.text, .slice qa qb qc, .slice qd qe qf, .slice qg qh qi] 42))))
  have BG := Ap.of (blk_new (w := w5) (k := w5.heap.size) (o := .cells #[.int .i64 g.op, .string g.path, .int .i64 g.val.kind, .int .i64 g.val.int, .string g.val.text, .slice qa qb qc, .slice qd qe qf, .slice qg qh qi] 42) rfl)
  have HF5 := Ap.of (Knd.below HF.out hb5)
  have BF5 := Ap.of (blk_bel BF.out hb5)
  have HU5 := Ap.of (Knd.below HU4.out hb5)
  have HV5 := Ap.of (Knd.below HV4.out hb5)
  have BV5 := Ap.of (blk_bel BV4.out hb5)
  have BU5 := Ap.of (blk_bel BU4.out hb5)
  have G5 := Ap.of (G4.out.below hb5)
  have HB5 := Ap.of (bel_step HB4.out hb5)
  have c7 := blk_cells BV5.out
  have l7 := blk_lt BV5.out
  have d9 := blk_cells BU5.out
  have m9 := blk_lt BU5.out
  clear hR hb hb5 HP c9 l9 HF BF HU4 HV4 BV4 BU4 G4
  rcases hd with ⟨hg, rfl⟩ | ⟨c, m, g2, h1, h2, rfl, h3⟩
  case inr =>
    clear h1 h2 h3
    go_wp2_with fail
    go_ret
    exact ⟨rfl, HB5.out⟩
  have HGP := Ap.of hg
  clear hg
  go_upto_region 7 with fail
  generalize w5.alloc (.cells #[.int .i64 g.op, .string g.path, .int .i64 g.val.kind, .int .i64 g.val.int, .string g.val.text, .slice qa qb qc, .slice qd qe qf, .slice qg qh qi] 42) = U5 at *
  generalize w5.heap.size = g13 at *
  have hb6 := bel_step (bel_step (bel_alloc U5 (.cells #[.int .i64 v.kind, .int .i64 v.int, .string v.text, .slice la ln lc, .slice fa fn fc, .int .i64 u.kind, .int .i64 u.int, .string u.text, .slice la2 ln2 lc2, .slice fa2 fn2 fc2] 28)) (bel_alloc _ (.cells #[.int .i64 4, .int .i64 0, .string ⟨#[]⟩, .slice (some ⟨U5.heap.size, 0, none⟩) 2 2, .slice none 0 0] 28))) (bel_alloc _ (.cells #[.string ⟨#[36, 97, 110, 100]⟩, .int .i64 4, .int .i64 0, .string ⟨#[]⟩, .slice (some ⟨U5.heap.size, 0, none⟩) 2 2, .slice none 0 0] 37))
  have hA := blk_old (o' := (.cells #[.string ⟨#[36, 97, 110, 100]⟩, .int .i64 4, .int .i64 0, .string ⟨#[]⟩, .slice (some ⟨U5.heap.size, 0, none⟩) 2 2, .slice none 0 0] 37)) (blk_old (o' := (.cells #[.int .i64 4, .int .i64 0, .string ⟨#[]⟩, .slice (some ⟨U5.heap.size, 0, none⟩) 2 2, .slice none 0 0] 28)) (blk_new (w := U5) (k := U5.heap.size) (o := (.cells #[.int .i64 v.kind, .int .i64 v.int, .string v.text, .slice la ln lc, .slice fa fn fc, .int .i64 u.kind, .int .i64 u.int, .string u.text, .slice la2 ln2 lc2, .slice fa2 fn2 fc2] 28)) rfl))
  have hL := blk_old (o' := (.cells #[.string ⟨#[36, 97, 110, 100]⟩, .int .i64 4, .int .i64 0, .string ⟨#[]⟩, .slice (some ⟨U5.heap.size, 0, none⟩) 2 2, .slice none 0 0] 37)) (blk_new (w := U5.alloc (.cells #[.int .i64 v.kind, .int .i64 v.int, .string v.text, .slice la ln lc, .slice fa fn fc, .int .i64 u.kind, .int .i64 u.int, .string u.text, .slice la2 ln2 lc2, .slice fa2 fn2 fc2] 28)) (k := U5.heap.size + 1) (o := (.cells #[.int .i64 4, .int .i64 0, .string ⟨#[]⟩, .slice (some ⟨U5.heap.size, 0, none⟩) 2 2, .slice none 0 0] 28)) (by simp))
  have hF := blk_new (w := (U5.alloc (.cells #[.int .i64 v.kind, .int .i64 v.int, .string v.text, .slice la ln lc, .slice fa fn fc, .int .i64 u.kind, .int .i64 u.int, .string u.text, .slice la2 ln2 lc2, .slice fa2 fn2 fc2] 28)).alloc (.cells #[.int .i64 4, .int .i64 0, .string ⟨#[]⟩, .slice (some ⟨U5.heap.size, 0, none⟩) 2 2, .slice none 0 0] 28)) (k := U5.heap.size + 2) (o := (.cells #[.string ⟨#[36, 97, 110, 100]⟩, .int .i64 4, .int .i64 0, .string ⟨#[]⟩, .slice (some ⟨U5.heap.size, 0, none⟩) 2 2, .slice none 0 0] 37)) (by simp)
  have HPA := Ap.of (joinp_calls ⟨#[36, 97, 110, 100]⟩ 0 and_op (.inl rfl) (by decide) v u f g HFP.out HGP.out HNV.out HNU.out (U5.heap.size + 2) _ (G5.out.below hb6).aw.fil (joinV_R la ln lc fa fn fc (by unfold maxLen; decide) hA trivial hF trivial (Knd.below HV5.out hb6) (Knd.below HU5.out hb6)))
  have HB6 := Ap.of hb6
  have HA6 := Ap.of hA
  have HL6 := Ap.of hL
  clear hb6 hA hL hF
  go_wp2_with fail
  refine HPA.out.mono ?_
  rintro e w6 ⟨h, ka, kb, kc, kd, ke, kf, kg, kh, ki, rfl, hh, hR, hb⟩
  have hb7 := bel_step hb (bel_alloc w6 (.cells #[.int .i64 h.op, .string h.path, .int .i64 h.val.kind, .int .i64 h.val.int, .string h.val.text, .slice ka kb kc, .slice kd ke kf, .slice kg kh ki] 42))
  have HH := Ap.of (Knd.below hR (bel_alloc w6 (.cells #[.int .i64 h.op, .string h.path, .int .i64 h.val.kind, .int .i64 h.val.int, .string h.val.text, .slice ka kb kc, .slice kd ke kf, .slice kg kh ki] 42)))
  have BH := Ap.of (blk_new (w := w6) (k := w6.heap.size) (o := .cells #[.int .i64 h.op, .string h.path, .int .i64 h.val.kind, .int .i64 h.val.int, .string h.val.text, .slice ka kb kc, .slice kd ke kf, .slice kg kh ki] 42) rfl)
  have HHE := Ap.of hh
  have hb57 := bel_step HB6.out hb7
  have HA7 := Ap.of (blk_bel HA6.out hb7)
  have BL7 := Ap.of (blk_bel HL6.out hb7)
  have HF7 := Ap.of (Knd.below HF5.out hb57)
  have BF7 := Ap.of (blk_bel BF5.out hb57)
  have HG7 := Ap.of (Knd.below HG.out hb57)
  have BG7 := Ap.of (blk_bel BG.out hb57)
  have HU7 := Ap.of (Knd.below HU5.out hb57)
  have HV7 := Ap.of (Knd.below HV5.out hb57)
  have G7 := Ap.of (G5.out.below hb57)
  have HB7 := Ap.of (bel_step HB5.out hb57)
  have c15 := blk_cells BL7.out
  have l15 := blk_lt BL7.out
  clear hR hb hb7 hb57 hh HPA HA6 HL6 HB6 c7 l7 d9 m9 HF5 BF5 HG BG HU5 HV5 BV5 BU5 G5
  go_upto_region 11 with fail
  generalize w6.alloc (.cells #[.int .i64 h.op, .string h.path, .int .i64 h.val.kind, .int .i64 h.val.int, .string h.val.text, .slice ka kb kc, .slice kd ke kf, .slice kg kh ki] 42) = U7 at *
  generalize w6.heap.size = g16 at *
  have hb8 := bel_alloc U7 (.cells #[.string ⟨#[36, 111, 114]⟩, .int .i64 4, .int .i64 0, .string ⟨#[]⟩, .slice (some ⟨U5.heap.size, 0, none⟩) 2 2, .slice none 0 0] 37)
  have hF := blk_new (w := U7) (k := U7.heap.size) (o := (.cells #[.string ⟨#[36, 111, 114]⟩, .int .i64 4, .int .i64 0, .string ⟨#[]⟩, .slice (some ⟨U5.heap.size, 0, none⟩) 2 2, .slice none 0 0] 37)) rfl
  have HPO := Ap.of (joinp_calls ⟨#[36, 111, 114]⟩ 1 or_op (.inr rfl) (by decide) v u f g HFP.out HGP.out HNV.out HNU.out U7.heap.size _ (G7.out.below hb8).aw.fil (joinV_R la ln lc fa fn fc (by unfold maxLen; decide) (blk_bel HA7.out hb8) trivial hF trivial (Knd.below HV7.out hb8) (Knd.below HU7.out hb8)))
  have HB8 := Ap.of hb8
  clear hb8 hF
  go_wp2_with fail
  refine HPO.out.mono ?_
  rintro e w8 ⟨h', za, zb, zc, zd, ze, zf, zg, zh, zi, rfl, hh, hR, hb⟩
  have hb9 := bel_step (bel_step HB8.out hb) (bel_alloc w8 (.cells #[.int .i64 h'.op, .string h'.path, .int .i64 h'.val.kind, .int .i64 h'.val.int, .string h'.val.text, .slice za zb zc, .slice zd ze zf, .slice zg zh zi] 42))
  have HZ := Ap.of (Knd.below hR (bel_alloc w8 (.cells #[.int .i64 h'.op, .string h'.path, .int .i64 h'.val.kind, .int .i64 h'.val.int, .string h'.val.text, .slice za zb zc, .slice zd ze zf, .slice zg zh zi] 42)))
  have BZ := Ap.of (blk_new (w := w8) (k := w8.heap.size) (o := .cells #[.int .i64 h'.op, .string h'.path, .int .i64 h'.val.kind, .int .i64 h'.val.int, .string h'.val.text, .slice za zb zc, .slice zd ze zf, .slice zg zh zi] 42) rfl)
  have HZE := Ap.of hh
  have HH9 := Ap.of (Knd.below HH.out hb9)
  have BH9 := Ap.of (blk_bel BH.out hb9)
  have HF9 := Ap.of (Knd.below HF7.out hb9)
  have BF9 := Ap.of (blk_bel BF7.out hb9)
  have HG9 := Ap.of (Knd.below HG7.out hb9)
  have BG9 := Ap.of (blk_bel BG7.out hb9)
  have G9 := Ap.of (G7.out.below hb9)
  have HB9 := Ap.of (bel_step HB7.out hb9)
  clear hR hb hb9 hh HPO HA7 BL7 HB8 c15 l15 HF7 BF7 HG7 BG7 HU7 HV7 G7 HH BH HB7
  go_upto_region 12 with fail
  generalize w8.alloc (.cells #[.int .i64 h'.op, .string h'.path, .int .i64 h'.val.kind, .int .i64 h'.val.int, .string h'.val.text, .slice za zb zc, .slice zd ze zf, .slice zg zh zi] 42) = U9 at *
  generalize w8.heap.size = g18 at *
  go_wp2_with fail
  refine (of_calls A2 n2 c2 U9 _ (fun k hk => Nat.lt_of_lt_of_le hk HB9.out.size) G9.out.te.laid (B2.out.below HB9.out)).mono ?_
  rintro e w10 ⟨doc, la3, ln3, lc3, fa3, fn3, fc3, rfl, hd, hgd, hb⟩
  have hb10 := bel_step hb (bel_alloc w10 (.cells #[.int .i64 doc.kind, .int .i64 doc.int, .string doc.text, .slice la3 ln3 lc3, .slice fa3 fn3 fc3] 28))
  have HD := Ap.of ((KV 4).mono (ok' := fun _ => True) (fun _ _ => trivial) (Knd.below hd (bel_alloc w10 (.cells #[.int .i64 doc.kind, .int .i64 doc.int, .string doc.text, .slice la3 ln3 lc3, .slice fa3 fn3 fc3] 28))))
  have BD := Ap.of (blk_new (w := w10) (k := w10.heap.size) (o := .cells #[.int .i64 doc.kind, .int .i64 doc.int, .string doc.text, .slice la3 ln3 lc3, .slice fa3 fn3 fc3] 28) rfl)
  have HFW := Ap.of (Few.of_good hgd)
  have HZX := Ap.of (Knd.below HZ.out hb10)
  have BZX := Ap.of (blk_bel BZ.out hb10)
  have HHX := Ap.of (Knd.below HH9.out hb10)
  have BHX := Ap.of (blk_bel BH9.out hb10)
  have HFX := Ap.of (Knd.below HF9.out hb10)
  have BFX := Ap.of (blk_bel BF9.out hb10)
  have HGX := Ap.of (Knd.below HG9.out hb10)
  have BGX := Ap.of (blk_bel BG9.out hb10)
  have GX := Ap.of (G9.out.below hb10)
  have HBX := Ap.of (bel_step HB9.out hb10)
  clear hd hgd hb hb10 HZ BZ HH9 BH9 HF9 BF9 HG9 BG9 G9 HB9
  go_upto_region 13 with fail
  generalize w10.alloc (.cells #[.int .i64 doc.kind, .int .i64 doc.int, .string doc.text, .slice la3 ln3 lc3, .slice fa3 fn3 fc3] 28) = UX at *
  generalize w10.heap.size = g20 at *
  have FOF := (parse_fok 9).1 10 v f HNV.out HFP.out
  have FOG := (parse_fok 9).1 10 u g HNU.out HGP.out
  have HMF := Ap.of (fun W (hW : Below UX.heap.size UX W) => met_calls 11 f pa pb pc pd pe pf pg ph pi doc la3 ln3 lc3 fa3 fn3 fc3 W HFW.out FOF (GX.out.below hW).aw (Knd.below HFX.out hW) (Knd.below HD.out hW))
  have HMG := Ap.of (fun W (hW : Below UX.heap.size UX W) => met_calls 11 g qa qb qc qd qe qf qg qh qi doc la3 ln3 lc3 fa3 fn3 fc3 W HFW.out FOG (GX.out.below hW).aw (Knd.below HGX.out hW) (Knd.below HD.out hW))
  have HMH := Ap.of (fun W (hW : Below UX.heap.size UX W) => met_calls 13 h ka kb kc kd ke kf kg kh ki doc la3 ln3 lc3 fa3 fn3 fc3 W HFW.out (by rw [HHE.out]; exact join_fok FOF FOG) (GX.out.below hW).aw (Knd.below HHX.out hW) (Knd.below HD.out hW))
  have HMZ := Ap.of (fun W (hW : Below UX.heap.size UX W) => met_calls 13 h' za zb zc zd ze zf zg zh zi doc la3 ln3 lc3 fa3 fn3 fc3 W HFW.out (by rw [HZE.out]; exact join_fok FOF FOG) (GX.out.below hW).aw (Knd.below HZX.out hW) (Knd.below HD.out hW))
  have eH : matchD 11 13 h doc = (matchD 11 11 f doc && matchD 11 11 g doc) := by rw [HHE.out]; exact join_and 11 11 f g doc
  have eZ : matchD 11 13 h' doc = (matchD 11 11 f doc || matchD 11 11 g doc) := by rw [HZE.out]; exact join_or 11 11 f g doc
  rw [eH] at HMH
  rw [eZ] at HMZ
  clear eH eZ FOF FOG HHE HZE HFP HGP HNV HNU
  generalize matchD 11 11 f doc = p at *
  generalize matchD 11 11 g doc = q at *
  have cf := blk_cells BFX.out
  have lf := blk_lt BFX.out
  have cg := blk_cells BGX.out
  have lg := blk_lt BGX.out
  have cd := blk_cells BD.out
  have ld := blk_lt BD.out
  go_cut [21, 22] (fun v21 v22 wx => v21 = .bool p ∧ v22 = .bool q ∧ Ap (Below UX.heap.size UX wx))
  case first =>
    have hks : ∀ W, Below UX.heap.size UX W → (Below UX.heap.size UX W ∧ W.cell? ⟨g11, 0, none⟩ = some (.int .i64 f.op) ∧ W.cell? ⟨g11, 1, none⟩ = some (.string f.path) ∧ W.cell? ⟨g11, 2, none⟩ = some (.int .i64 f.val.kind) ∧ W.cell? ⟨g11, 3, none⟩ = some (.int .i64 f.val.int) ∧ W.cell? ⟨g11, 4, none⟩ = some (.string f.val.text) ∧ W.cell? ⟨g11, 5, none⟩ = some (.slice pa pb pc) ∧ W.cell? ⟨g11, 6, none⟩ = some (.slice pd pe pf) ∧ W.cell? ⟨g11, 7, none⟩ = some (.slice pg ph pi) ∧ W.cell? ⟨g13, 0, none⟩ = some (.int .i64 g.op) ∧ W.cell? ⟨g13, 1, none⟩ = some (.string g.path) ∧ W.cell? ⟨g13, 2, none⟩ = some (.int .i64 g.val.kind) ∧ W.cell? ⟨g13, 3, none⟩ = some (.int .i64 g.val.int) ∧ W.cell? ⟨g13, 4, none⟩ = some (.string g.val.text) ∧ W.cell? ⟨g13, 5, none⟩ = some (.slice qa qb qc) ∧ W.cell? ⟨g13, 6, none⟩ = some (.slice qd qe qf) ∧ W.cell? ⟨g13, 7, none⟩ = some (.slice qg qh qi) ∧ W.cell? ⟨g20, 0, none⟩ = some (.int .i64 doc.kind) ∧ W.cell? ⟨g20, 1, none⟩ = some (.int .i64 doc.int) ∧ W.cell? ⟨g20, 2, none⟩ = some (.string doc.text) ∧ W.cell? ⟨g20, 3, none⟩ = some (.slice la3 ln3 lc3) ∧ W.cell? ⟨g20, 4, none⟩ = some (.slice fa3 fn3 fc3)) := fun W ho => by
      have e1 := blk_cells (blk_bel BFX.out ho)
      have e2 := blk_cells (blk_bel BGX.out ho)
      have e3 := blk_cells (blk_bel BD.out ho)
      exact ⟨ho, e1 0, e1 1, e1 2, e1 3, e1 4, e1 5, e1 6, e1 7, e2 0, e2 1, e2 2, e2 3, e2 4, e2 5, e2 6, e2 7, e3 0, e3 1, e3 2, e3 3, e3 4⟩
    have KS := Ap.of hks
    clear hks cf lf cg lg cd ld
    go_region_held3 (fun W => Below UX.heap.size UX W ∧ W.cell? ⟨g11, 0, none⟩ = some (.int .i64 f.op) ∧ W.cell? ⟨g11, 1, none⟩ = some (.string f.path) ∧ W.cell? ⟨g11, 2, none⟩ = some (.int .i64 f.val.kind) ∧ W.cell? ⟨g11, 3, none⟩ = some (.int .i64 f.val.int) ∧ W.cell? ⟨g11, 4, none⟩ = some (.string f.val.text) ∧ W.cell? ⟨g11, 5, none⟩ = some (.slice pa pb pc) ∧ W.cell? ⟨g11, 6, none⟩ = some (.slice pd pe pf) ∧ W.cell? ⟨g11, 7, none⟩ = some (.slice pg ph pi) ∧ W.cell? ⟨g13, 0, none⟩ = some (.int .i64 g.op) ∧ W.cell? ⟨g13, 1, none⟩ = some (.string g.path) ∧ W.cell? ⟨g13, 2, none⟩ = some (.int .i64 g.val.kind) ∧ W.cell? ⟨g13, 3, none⟩ = some (.int .i64 g.val.int) ∧ W.cell? ⟨g13, 4, none⟩ = some (.string g.val.text) ∧ W.cell? ⟨g13, 5, none⟩ = some (.slice qa qb qc) ∧ W.cell? ⟨g13, 6, none⟩ = some (.slice qd qe qf) ∧ W.cell? ⟨g13, 7, none⟩ = some (.slice qg qh qi) ∧ W.cell? ⟨g20, 0, none⟩ = some (.int .i64 doc.kind) ∧ W.cell? ⟨g20, 1, none⟩ = some (.int .i64 doc.int) ∧ W.cell? ⟨g20, 2, none⟩ = some (.string doc.text) ∧ W.cell? ⟨g20, 3, none⟩ = some (.slice la3 ln3 lc3) ∧ W.cell? ⟨g20, 4, none⟩ = some (.slice fa3 fn3 fc3))
      (first
        | with_reducible assumption
        | (with_reducible (refine KS.out _ ?_; exact Below.refl _ _))
        | (with_reducible (refine KS.out _ ?_; apply Below.drew; exact Below.refl _ _))
        | (with_reducible (refine KS.out _ ?_; apply bel_stepB _ _ hb3; exact And.left (by assumption); exact (Below.size (And.left (by assumption))))))
      (first
        | (go_at_call 25; (first | (with_reducible refine (HMF.out _ (And.left (by assumption))).mono ?_) | (with_reducible refine (HMG.out _ (And.left (by assumption))).mono ?_)); rintro e w9 ⟨rfl, hb3⟩))
    all_goals
      have HBL := Ap.of (show Below UX.heap.size UX w9 from And.left (by assumption))
      go_wp2_with fail
      go_meet
      exact ⟨rfl, rfl, HBL⟩
  case rest =>
    obtain ⟨rfl, rfl, HW⟩ := hcut
    have hbh := blk_bel BHX.out HW.out
    have hbz := blk_bel BZX.out HW.out
    have hbd := blk_bel BD.out HW.out
    have ch := blk_cells hbh
    have lh := blk_lt hbh
    have cz := blk_cells hbz
    have lz := blk_lt hbz
    have ce := blk_cells hbd
    have le := blk_lt hbd
    have BZW := Ap.of hbz
    have BDW := Ap.of hbd
    clear hbh hbz hbd cf lf cg lg cd ld HMF HMG
    cases p <;> cases q
    all_goals
      go_wp2_with fail
      (with_reducible refine (HMH.out _ HW.out).mono ?_)
      rintro e w9 ⟨rfl, hb⟩
      have HW9 := Ap.of (bel_step HW.out hb)
      have hbz := blk_bel BZW.out hb
      have hbd := blk_bel BDW.out hb
      have cz9 := blk_cells hbz
      have lz9 := blk_lt hbz
      have ce9 := blk_cells hbd
      have le9 := blk_lt hbd
      clear hb hbz hbd
      go_wp2_with fail
      (with_reducible refine (HMZ.out _ HW9.out).mono ?_)
      rintro e w10 ⟨rfl, hb⟩
      have HWE := Ap.of (bel_step HBX.out (bel_step HW9.out hb))
      clear hb
      go_wp2_with fail
      go_ret
      exact ⟨rfl, HWE.out⟩
end Go.Proofs.YtlomieopppndeaaGreatDoor
