/- PlanBoth's walk. -/
import Derived.Test.YtlomieopppndeaaDoorPlanBoundsW
namespace Go.Proofs.YtlomieopppndeaaDoor
open Go.RowKit

/-- Two filters as one, in memory. -/
theorem both_R {w : World} {g d : Nat} {f s : Flt} (la : Option Addr) (ln lc : Nat) (fa : Option Addr) (fn fc : Nat) (sa : Option Addr) (sn sc : Nat) {la2 : Option Addr} {ln2 lc2 : Nat} {fa2 : Option Addr} {fn2 fc2 : Nat} {sa2 : Option Addr} {sn2 sc2 : Nat} (h : w.heap[g]? = some (.cells #[.int .i64 f.op, .string f.path, .int .i64 f.val.kind, .int .i64 f.val.int, .string f.val.text, .slice la ln lc, .slice fa fn fc, .slice sa sn sc, .int .i64 s.op, .string s.path, .int .i64 s.val.kind, .int .i64 s.val.int, .string s.val.text, .slice la2 ln2 lc2, .slice fa2 fn2 fc2, .slice sa2 sn2 sc2] 32 (0, 0)))
    (hf : (KF 11 d).R w (fun _ => True) f [.int .i64 f.op, .string f.path, .int .i64 f.val.kind, .int .i64 f.val.int, .string f.val.text, .slice la ln lc, .slice fa fn fc, .slice sa sn sc]) (hs : (KF 11 d).R w (fun _ => True) s [.int .i64 s.op, .string s.path, .int .i64 s.val.kind, .int .i64 s.val.int, .string s.val.text, .slice la2 ln2 lc2, .slice fa2 fn2 fc2, .slice sa2 sn2 sc2]) : (KF 11 (d + 1)).R w (fun _ => True) (.mk 0 ⟨#[]⟩ Val.zero [f, s]) [.int .i64 0, .string ⟨#[]⟩, .int .i64 0, .int .i64 0, .string ⟨#[]⟩, .slice none 0 0, .slice none 0 0, .slice (some ⟨g, 0, none⟩) 2 2] := by
  refine ⟨[.int .i64 0, .int .i64 0, .string ⟨#[]⟩, .slice none 0 0, .slice none 0 0], some ⟨g, 0, none⟩, 2, 2, rfl, ⟨by show -9223372036854775808 ≤ (0 : Int); decide, by show (0 : Int) ≤ 9223372036854775807; decide⟩, by show 0 ≤ maxLen; exact Nat.zero_le _, KV_zero _ _ 10, .inr ⟨g, 0, rfl, rfl, Nat.le_refl _, by unfold maxLen; decide, trivial, blk_lt h, fun i x hx => ?_⟩⟩
  have hx' : [f, s][i]? = some x := hx
  rw [KF_sz]
  have hc := blk_cells h
  match i, hx' with
  | 0, hx' =>
    injection hx' with hx'
    subst hx'
    refine ⟨_, hf, fun j u hj => ?_⟩
    rw [hc]
    match j, hj with
    | 0, hj | 1, hj | 2, hj | 3, hj | 4, hj | 5, hj | 6, hj | 7, hj => exact hj
    | j + 8, hj => simp at hj
  | 1, hx' =>
    injection hx' with hx'
    subst hx'
    refine ⟨_, hs, fun j u hj => ?_⟩
    rw [hc]
    match j, hj with
    | 0, hj | 1, hj | 2, hj | 3, hj | 4, hj | 5, hj | 6, hj | 7, hj => exact hj
    | j + 8, hj => simp at hj
  | i + 2, hx' => simp at hx'
theorem both_subs {d : Nat} {f s : Flt} (hf : SubsN 7 d f) (hs : SubsN 7 d s) : SubsN 7 (d + 1) (.mk 0 ⟨#[]⟩ Val.zero [f, s]) := ⟨by show 2 ≤ 7; decide, fun t ht => by
  have ht' : t ∈ [f, s] := ht
  simp only [List.mem_cons, List.not_mem_nil, or_false] at ht'
  rcases ht' with rfl | rfl
  · exact hf
  · exact hs⟩
theorem both_conds {d : Nat} {f s : Flt} (hf : ∀ c ∈ condsD d f, CondV c) (hs : ∀ c ∈ condsD d s, CondV c) : ∀ c ∈ condsD (d + 1) (.mk 0 ⟨#[]⟩ Val.zero [f, s]), CondV c := by
  intro c hc
  have h : condsD (d + 1) (.mk 0 ⟨#[]⟩ Val.zero [f, s]) = [f, s].flatMap (condsD d) := rfl
  rw [h] at hc
  obtain ⟨t, ht, hc2⟩ := List.mem_flatMap.1 hc
  simp only [List.mem_cons, List.not_mem_nil, or_false] at ht
  rcases ht with rfl | rfl
  · exact hf c hc2
  · exact hs c hc2
set_option maxRecDepth 100000 in
set_option maxHeartbeats 4000000 in
theorem planboth_calls (A0 : Option Addr) (n0 c0 : Nat) (A1 : Option Addr) (n1 c1 : Nat) (at_ : Int) (w : World) (b0 : Bs w (fun k => k < w.heap.size) A0 n0 c0) (b1 : Bs w (fun k => k < w.heap.size) A1 n1 c1) (ba : 0 ≤ at_ ∧ at_ ≤ 255) (G : PbG w) :
    Calls Tryd.prog 6 #[.slice A0 n0 c0, .slice A1 n1 c1, .int .u8 at_] w fun e w' => e = .returned (.bool true) ∧ Below w.heap.size w w' := by
  obtain ⟨K, hK, hK6⟩ : ∃ K : Nat, at_ % 6 = (K : Int) ∧ K < 6 := ⟨(at_ % 6).toNat, by omega, by omega⟩
  have hKb : (K : Int) < 6 := by omega
  obtain ⟨p, hp⟩ : ∃ p, pathsOf[K]? = some p := ⟨_, List.getElem?_eq_getElem (by have : pathsOf.length = 6 := rfl; omega)⟩
  have HP := Ap.of hp
  have B0 := Ap.of b0
  have B1 := Ap.of b1
  have GG := Ap.of G
  have h255 := ba.2
  have h00 := ba.1
  clear b0 b1 G hp ba
  go_enter Tryd.func6, Tryd.ntmps6
  go_wp2_with fail
  refine (pawake_calls w GG.out.pl.fil.par).mono ?_
  rintro e w1 ⟨rfl, hb⟩
  have HB1 := Ap.of hb
  have G1 := Ap.of (GG.out.below hb)
  clear hb
  go_wp2_with fail
  refine (of17_calls A0 n0 c0 _ w1 (fun k hk => Nat.lt_of_lt_of_le hk HB1.out.size) (B0.out.below HB1.out) G1.out.pl).mono ?_
  rintro e w2 ⟨f, la, ln, lc, fa, fn, fc, sa, sn, sc, is, rfl, hb, hok⟩
  have hbU := bel_step hb (bel_alloc w2 (.cells #[.int .i64 f.op, .string f.path, .int .i64 f.val.kind, .int .i64 f.val.int, .string f.val.text, .slice la ln lc, .slice fa fn fc, .slice sa sn sc] 32))
  have HBU := Ap.of (bel_step HB1.out hbU)
  have GU := Ap.of (G1.out.below hbU)
  have BF := Ap.of (blk_new (w := w2) (k := w2.heap.size) (o := .cells #[.int .i64 f.op, .string f.path, .int .i64 f.val.kind, .int .i64 f.val.int, .string f.val.text, .slice la ln lc, .slice fa fn fc, .slice sa sn sc] 32) rfl)
  have HOK := Ap.of (show is = true → ∃ v, DocV 3 v ∧ parseD 11 v = .ok f ∧ (KF 11 13).R (w2.alloc (.cells #[.int .i64 f.op, .string f.path, .int .i64 f.val.kind, .int .i64 f.val.int, .string f.val.text, .slice la ln lc, .slice fa fn fc, .slice sa sn sc] 32)) (fun _ => True) f [.int .i64 f.op, .string f.path, .int .i64 f.val.kind, .int .i64 f.val.int, .string f.val.text, .slice la ln lc, .slice fa fn fc, .slice sa sn sc] from fun h => by
    obtain ⟨v, h1, h2, h3⟩ := hok h
    exact ⟨v, h1, h2, Knd.below h3 (bel_alloc w2 _)⟩)
  clear hb hok hbU
  go_upto_region 4 with fail
  generalize w2.alloc (.cells #[.int .i64 f.op, .string f.path, .int .i64 f.val.kind, .int .i64 f.val.int, .string f.val.text, .slice la ln lc, .slice fa fn fc, .slice sa sn sc] 32) = U at *
  generalize w2.heap.size = g7 at *
  go_wp2_with fail
  refine (of17_calls A1 n1 c1 _ U (fun k hk => Nat.lt_of_lt_of_le hk HBU.out.size) (B1.out.below HBU.out) GU.out.pl).mono ?_
  rintro e w3 ⟨s, la2, ln2, lc2, fa2, fn2, fc2, sa2, sn2, sc2, is2, rfl, hb, hok⟩
  have hbV := bel_step hb (bel_alloc w3 (.cells #[.int .i64 s.op, .string s.path, .int .i64 s.val.kind, .int .i64 s.val.int, .string s.val.text, .slice la2 ln2 lc2, .slice fa2 fn2 fc2, .slice sa2 sn2 sc2] 32))
  have HBV := Ap.of (bel_step HBU.out hbV)
  have GV := Ap.of (GU.out.below hbV)
  have BS := Ap.of (blk_new (w := w3) (k := w3.heap.size) (o := .cells #[.int .i64 s.op, .string s.path, .int .i64 s.val.kind, .int .i64 s.val.int, .string s.val.text, .slice la2 ln2 lc2, .slice fa2 fn2 fc2, .slice sa2 sn2 sc2] 32) rfl)
  have BFV := Ap.of (blk_bel BF.out hbV)
  have HOKF := Ap.of (show is = true → ∃ v, DocV 3 v ∧ parseD 11 v = .ok f ∧ (KF 11 13).R (w3.alloc (.cells #[.int .i64 s.op, .string s.path, .int .i64 s.val.kind, .int .i64 s.val.int, .string s.val.text, .slice la2 ln2 lc2, .slice fa2 fn2 fc2, .slice sa2 sn2 sc2] 32)) (fun _ => True) f [.int .i64 f.op, .string f.path, .int .i64 f.val.kind, .int .i64 f.val.int, .string f.val.text, .slice la ln lc, .slice fa fn fc, .slice sa sn sc] from fun h => by
    obtain ⟨v, h1, h2, h3⟩ := HOK.out h
    exact ⟨v, h1, h2, Knd.below h3 hbV⟩)
  have HOKS := Ap.of (show is2 = true → ∃ v, DocV 3 v ∧ parseD 11 v = .ok s ∧ (KF 11 13).R (w3.alloc (.cells #[.int .i64 s.op, .string s.path, .int .i64 s.val.kind, .int .i64 s.val.int, .string s.val.text, .slice la2 ln2 lc2, .slice fa2 fn2 fc2, .slice sa2 sn2 sc2] 32)) (fun _ => True) s [.int .i64 s.op, .string s.path, .int .i64 s.val.kind, .int .i64 s.val.int, .string s.val.text, .slice la2 ln2 lc2, .slice fa2 fn2 fc2, .slice sa2 sn2 sc2] from fun h => by
    obtain ⟨v, h1, h2, h3⟩ := hok h
    exact ⟨v, h1, h2, Knd.below h3 (bel_alloc w3 _)⟩)
  clear hb hok hbV HOK BF
  go_upto_region 5 with fail
  generalize w3.alloc (.cells #[.int .i64 s.op, .string s.path, .int .i64 s.val.kind, .int .i64 s.val.int, .string s.val.text, .slice la2 ln2 lc2, .slice fa2 fn2 fc2, .slice sa2 sn2 sc2] 32) = V at *
  generalize w3.heap.size = g9 at *
  by_cases hboth : is = true ∧ is2 = true
  · obtain ⟨rfl, rfl⟩ := hboth
    obtain ⟨v, hdv, hpv, hR⟩ := HOKF.out rfl
    obtain ⟨v2, hdv2, hpv2, hR2⟩ := HOKS.out rfl
    have HR := Ap.of hR
    have HR2 := Ap.of hR2
    have HS := Ap.of (SubsN_le (by decide : 9 ≤ 13) (doc_subs 3 11 v f hdv hpv))
    have HS2 := Ap.of (SubsN_le (by decide : 9 ≤ 13) (doc_subs 3 11 v2 s hdv2 hpv2))
    have HC := Ap.of (doc_conds 3 11 v f hdv hpv 13)
    have HC2 := Ap.of (doc_conds 3 11 v2 s hdv2 hpv2 13)
    clear hdv hpv hR hdv2 hpv2 hR2 HOKF HOKS
    go_upto_region 7 with fail
    have cp := GV.out.pa K p HP.out
    have lp := World.block_lt_of_cell? _ _ cp
    have cf := blk_cells BFV.out
    have lf := blk_lt BFV.out
    have HB := Ap.of (bounds_calls 13 11 f la ln lc fa fn fc sa sn sc p V (by decide) (by decide) HS.out HC.out GV.out.pl.fil.par HR.out)
    have HBS := Ap.of (fun W (hW : Below V.heap.size V W) => bounds_calls 13 11 s la2 ln2 lc2 fa2 fn2 fc2 sa2 sn2 sc2 p W (by decide) (by decide) HS2.out HC2.out (GV.out.below hW).pl.fil.par (Knd.below HR2.out hW))
    have HBJ := Ap.of (fun W (gj : Nat) (hW : Below V.heap.size V W) (hj : W.heap[gj]? = some (.cells #[.int .i64 f.op, .string f.path, .int .i64 f.val.kind, .int .i64 f.val.int, .string f.val.text, .slice la ln lc, .slice fa fn fc, .slice sa sn sc, .int .i64 s.op, .string s.path, .int .i64 s.val.kind, .int .i64 s.val.int, .string s.val.text, .slice la2 ln2 lc2, .slice fa2 fn2 fc2, .slice sa2 sn2 sc2] 32 (0, 0))) => bounds_calls 14 11 (.mk 0 ⟨#[]⟩ Val.zero [f, s]) none 0 0 none 0 0 (some ⟨gj, 0, none⟩) 2 2 p W (by decide) (by decide) (both_subs HS.out HS2.out) (both_conds HC.out HC2.out) (GV.out.below hW).pl.fil.par (both_R la ln lc fa fn fc sa sn sc hj (Knd.below HR.out hW) (Knd.below HR2.out hW)))
    rw [bounds_both] at HBJ
    unfold BndP at HB HBS HBJ
    generalize boundsD 11 13 f p = b at *
    generalize boundsD 11 13 s p = b' at *
    obtain ⟨r1, r2, r3, r4⟩ := b
    obtain ⟨s1, s2, s3, s4⟩ := b'
    have hbb : bothB (r1, r2, r3, r4) (s1, s2, s3, s4) = (maxA r1 s1, toA r2 s2, r3 || s3, r4 || s4) := rfl
    rw [hbb] at HBJ
    clear hbb
    go_wp2_with fail
    refine HB.out.mono ?_
    rintro e w5 ⟨rfl, hb⟩
    have hb5 := bel_step hb (bel_alloc w5 (.cells #[.string r1, .string r2, .bool false] 37))
    have BR := Ap.of (blk_new (w := w5) (k := w5.heap.size) (o := .cells #[.string r1, .string r2, .bool false] 37) rfl)
    have HBS5 := Ap.of (HBS.out _ hb5)
    have BF5 := Ap.of (blk_bel BFV.out hb5)
    have BS5 := Ap.of (blk_bel BS.out hb5)
    have HB5 := Ap.of hb5
    clear hb hb5 cf lf cp lp HB HBS
    go_upto_region 9 with fail
    generalize w5.alloc (.cells #[.string r1, .string r2, .bool false] 37) = W5 at *
    generalize w5.heap.size = g12 at *
    have cs5 := blk_cells BS5.out
    have ls5 := blk_lt BS5.out
    go_wp2_with fail
    refine HBS5.out.mono ?_
    rintro e w7 ⟨rfl, hb⟩
    have hb7 := bel_step hb (bel_alloc w7 (.cells #[.string s1, .string s2, .bool false] 37))
    have BX := Ap.of (blk_new (w := w7) (k := w7.heap.size) (o := .cells #[.string s1, .string s2, .bool false] 37) rfl)
    have BR7 := Ap.of (blk_bel BR.out hb7)
    have BF7 := Ap.of (blk_bel BF5.out hb7)
    have BS7 := Ap.of (blk_bel BS5.out hb7)
    have HB7 := Ap.of (bel_step HB5.out hb7)
    clear hb hb7 cs5 ls5 HBS5 BR BF5 BS5 HB5
    go_upto_region 10 with fail
    generalize w7.alloc (.cells #[.string s1, .string s2, .bool false] 37) = W7 at *
    generalize w7.heap.size = g15 at *
    have cf7 := blk_cells BF7.out
    have lf7 := blk_lt BF7.out
    have cs7 := blk_cells BS7.out
    have ls7 := blk_lt BS7.out
    have hbj := bel_alloc W7 (.cells #[.int .i64 f.op, .string f.path, .int .i64 f.val.kind, .int .i64 f.val.int, .string f.val.text, .slice la ln lc, .slice fa fn fc, .slice sa sn sc, .int .i64 s.op, .string s.path, .int .i64 s.val.kind, .int .i64 s.val.int, .string s.val.text, .slice la2 ln2 lc2, .slice fa2 fn2 fc2, .slice sa2 sn2 sc2] 32)
    have HBK := Ap.of (HBJ.out (W7.alloc (.cells #[.int .i64 f.op, .string f.path, .int .i64 f.val.kind, .int .i64 f.val.int, .string f.val.text, .slice la ln lc, .slice fa fn fc, .slice sa sn sc, .int .i64 s.op, .string s.path, .int .i64 s.val.kind, .int .i64 s.val.int, .string s.val.text, .slice la2 ln2 lc2, .slice fa2 fn2 fc2, .slice sa2 sn2 sc2] 32)) W7.heap.size (bel_step HB7.out hbj) (blk_new rfl))
    have BRJ := Ap.of (blk_bel BR7.out hbj)
    have BXJ := Ap.of (blk_bel BX.out hbj)
    have HBX := Ap.of (bel_step HB7.out hbj)
    clear hbj HBJ
    go_wp2_with fail
    refine HBK.out.mono ?_
    rintro e w9 ⟨rfl, hb⟩
    have hb9 := bel_step hb (bel_alloc w9 (.cells #[.string (maxA r1 s1), .string (toA r2 s2), .bool false] 37))
    have br9 := blk_bel BRJ.out hb9
    have bx9 := blk_bel BXJ.out hb9
    have HB9 := Ap.of (bel_step HBV.out (bel_step HBX.out hb9))
    have BT9 := Ap.of (blk_new (w := w9) (k := w9.heap.size) (o := .cells #[.string (maxA r1 s1), .string (toA r2 s2), .bool false] 37) rfl)
    clear hb hb9 cf7 lf7 cs7 ls7 HBK BRJ BXJ BR7 BX
    go_upto_region 11 with fail
    generalize w9.alloc (.cells #[.string (maxA r1 s1), .string (toA r2 s2), .bool false] 37) = W9 at *
    generalize w9.heap.size = g18 at *
    have cr9 := blk_cells br9
    have lr9 := blk_lt br9
    have cx9 := blk_cells bx9
    have lx9 := blk_lt bx9
    have ct9 := blk_cells BT9.out
    have lt9 := blk_lt BT9.out
    have hmx : ∀ (W : World) ts t, (Builtin.max_ ts t #[.string r1, .string s1]).run Tryd.prog W = .ok (.string (maxA r1 s1)) W := fun W ts t => Lib.run_max_strs W ts t r1 s1
    have hg := gdRange
    have hq : ∀ w, (Op.equalIn 10000 37 (.agg #[.string (maxA r1 s1), .string (toA r2 s2), .bool false]) (.agg #[.string (maxA r1 s1), .string (toA r2 s2), .bool false])).run Tryd.prog w = .ok true w := fun w => by rw [eqRange]; simp
    generalize maxA r1 s1 = mx at *
    have hto : (r2 = ⟨#[]⟩ ∧ toA r2 s2 = s2) ∨ ((r2.toList == []) = false ∧ ¬ r2.toList = [] ∧ s2 = ⟨#[]⟩ ∧ toA r2 s2 = r2) ∨
        ((r2.toList == []) = false ∧ ¬ r2.toList = [] ∧ (s2.toList == []) = false ∧ ¬ s2.toList = [] ∧ ((toA r2 s2 = s2 ∧ Op.bytesLess s2.toList r2.toList = true) ∨ (toA r2 s2 = r2 ∧ Op.bytesLess s2.toList r2.toList = false))) := by
      by_cases h2 : r2 = ⟨#[]⟩
      · exact .inl ⟨h2, by rw [h2, toA_e]⟩
      · have hn : ¬ r2.toList = [] := fun h => h2 ((tl_nil r2).1 h)
        by_cases h3 : s2 = ⟨#[]⟩
        · exact .inr (.inl ⟨by simpa using hn, hn, h3, by rw [h3, toA_r]⟩)
        · have hn3 : ¬ s2.toList = [] := fun h => h3 ((tl_nil s2).1 h)
          refine .inr (.inr ⟨by simpa using hn, hn, by simpa using hn3, hn3, ?_⟩)
          rw [less_eq]
          unfold toA pickR
          by_cases h4 : ltA s2 r2
          · exact .inl ⟨if_pos ⟨h3, .inr h4⟩, by simpa using h4⟩
          · exact .inr ⟨if_neg (fun h => h.2.elim h2 h4), by simpa using h4⟩
    clear br9 bx9 BT9
    rcases hto with ⟨rfl, e1⟩ | ⟨e2, e3, rfl, e1⟩ | ⟨e2, e3, e4, e5, ⟨e1, e6⟩ | ⟨e1, e6⟩⟩
    all_goals
      rw [e1] at hq ct9
      clear e1
      go_upto_region 14 with fail
      cases r3 <;> cases r4 <;> cases s3 <;> cases s4
      all_goals
        go_wp2_with fail
        go_ret
        exact ⟨rfl, HB9.out⟩
  · have hn : is = false ∨ (is = true ∧ is2 = false) := by
      cases is
      · exact .inl rfl
      · cases is2
        · exact .inr ⟨rfl, rfl⟩
        · exact (hboth ⟨rfl, rfl⟩).elim
    clear hboth HOKF HOKS
    rcases hn with rfl | ⟨rfl, rfl⟩
    all_goals
      go_wp2_with fail
      go_ret
      exact ⟨rfl, HBV.out⟩
end Go.Proofs.YtlomieopppndeaaDoor
