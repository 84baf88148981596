/- plan.conditions, roundelaylaw17.flat: the conditions of a filter. -/
import Derived.Test.YtlomieopppndeaaDoorAppN
import Derived.Test.YtlomieopppndeaaDoorPlanDoc
namespace Go.Proofs.YtlomieopppndeaaDoor
open Go.RowKit

theorem KF_deeper (dv : Nat) : ∀ (d : Nat) (w : World) (ok : Nat → Prop) (x : Flt) (cs : List Value), (KF dv d).R w ok x cs → (KF dv (d + 1)).R w ok x cs
  | 0, _, _, _, _ => fun h => h.elim
  | d + 1, w, ok, x, cs => by
    rintro ⟨vs, sa, sn, sc, rfl, a, b, h1, h2⟩
    exact ⟨vs, sa, sn, sc, rfl, a, b, h1, h2.deeper (by rw [KF_sz, KF_sz]) (KF_deeper dv d)⟩
theorem KF_le {dv d d' : Nat} (h : d ≤ d') (w : World) (ok : Nat → Prop) (x : Flt) (cs : List Value) (hx : (KF dv d).R w ok x cs) : (KF dv d').R w ok x cs := by
  obtain ⟨k, rfl⟩ : ∃ k, d' = d + k := ⟨d' - d, by omega⟩
  clear h
  induction k with
  | zero => exact hx
  | succ k ih => exact KF_deeper dv _ w ok x cs ih
/-- No filter in it has more than so many. -/
def SubsN (N : Nat) : Nat → Flt → Prop
  | 0, _ => False
  | d + 1, f => f.subs.length ≤ N ∧ ∀ s ∈ f.subs, SubsN N d s
theorem SubsN_up {N : Nat} : ∀ (d : Nat) (f : Flt), SubsN N d f → SubsN N (d + 1) f
  | 0, _, h => h.elim
  | d + 1, _, h => ⟨h.1, fun s hs => SubsN_up d s (h.2 s hs)⟩
theorem SubsN_le {N d d' : Nat} (h : d ≤ d') {f : Flt} (hf : SubsN N d f) : SubsN N d' f := by
  obtain ⟨k, rfl⟩ : ∃ k, d' = d + k := ⟨d' - d, by omega⟩
  clear h
  induction k with
  | zero => exact hf
  | succ k ih => exact SubsN_up _ f ih
theorem flatN_len {α β : Type} (f : α → List β) (C : Nat) : ∀ l : List α, (∀ x ∈ l, (f x).length ≤ C) → (l.flatMap f).length ≤ l.length * C
  | [], _ => by simp
  | a :: r, h => by
    rw [List.flatMap_cons, List.length_append, List.length_cons, Nat.succ_mul]
    have h1 := h a (List.mem_cons_self ..)
    have h2 := flatN_len f C r (fun x hx => h x (List.mem_cons_of_mem _ hx))
    omega
theorem conds_len : ∀ (d : Nat) (f : Flt), SubsN 7 d f → (condsD d f).length ≤ 7 ^ d
  | 0, _, h => h.elim
  | d + 1, f, h => by
    unfold condsD
    split
    · have h1 := flatN_len (condsD d) (7 ^ d) f.subs (fun s hs => conds_len d s (h.2 s hs))
      have h2 := Nat.mul_le_mul h.1 (Nat.le_refl (7 ^ d))
      rw [Nat.pow_succ]
      omega
    · rw [List.length_singleton]
      exact Nat.pow_pos (by decide)
theorem pow7_le {d : Nat} (h : d ≤ 13) : 7 ^ d ≤ 100000000000 := Nat.le_trans (Nat.pow_le_pow_right (by decide) h) (by decide)
theorem flatL_next {α β : Type} {xs : List α} {k : Nat} {x : α} (f : α → List β) (hx : xs[k]? = some x) : (xs.take (k + 1)).flatMap f = (xs.take k).flatMap f ++ f x := by
  have hk : k < xs.length := (List.getElem?_eq_some_iff.1 hx).1
  rw [List.getElem?_eq_getElem hk] at hx
  injection hx with hx
  rw [List.take_succ_eq_append_getElem hk, List.flatMap_append, hx]
  simp
/-- What filters of bytes have. -/
theorem mapE_len7 {α : Type} {one : α → Except Int Flt} : ∀ {l : List α} {ss : List Flt}, mapE one l = .ok ss → ss.length = l.length
  | [], ss, h => by injection h with h; subst h; rfl
  | a :: r, ss, h => by
    simp only [mapE] at h
    cases ha : one a with
    | error e => rw [ha] at h; cases h
    | ok s =>
      rw [ha] at h
      cases hr : mapE one r with
      | error e => rw [hr] at h; cases h
      | ok tt =>
        rw [hr] at h
        injection h with h
        subst h
        simp [mapE_len7 hr]
theorem manyE_subs {α : Type} {N d : Nat} {op : Int} {one : α → Except Int Flt} {l : List α} {f : Flt} (hl : l.length ≤ N) (hp : ∀ x ∈ l, ∀ s, one x = .ok s → SubsN N d s) (h : manyE op one l = .ok f) : SubsN N (d + 1) f := by
  unfold manyE at h
  cases hm : mapE one l with
  | error e => rw [hm] at h; cases h
  | ok ss =>
    rw [hm] at h
    injection h with h
    subst h
    exact ⟨by show ss.length ≤ N; rw [mapE_len7 hm]; exact hl, mapE_all (SubsN N d) hp hm⟩
theorem leaf_subs (op : Int) (p : ByteArray) (y : Val) : SubsN 7 1 (.mk op p y []) := ⟨Nat.zero_le _, fun s hs => by cases hs⟩
theorem doc_subs : ∀ (d F : Nat) (v : Val) (f : Flt), DocV d v → parseD F v = .ok f → SubsN 7 (2 * d + 3) f
  | 0, _, _, _, h, _ => h.elim
  | d + 1, F, v, f, hv, h => by
    obtain ⟨h5, _, h7, hf⟩ := hv
    unfold parseD parseE at h
    rw [if_neg (by simp [h5])] at h
    refine manyE_subs (d := 2 * d + 4) h7 (fun fl hm s hs => ?_) h
    cases F with
    | zero => cases hs
    | succ F =>
      obtain ⟨nm, y⟩ := fl
      unfold fieldD at hs
      by_cases h1 : namedI nm = 0 ∨ namedI nm = 1
      · rw [if_pos h1] at hs
        by_cases h2 : y.kind ≠ 4 ∨ y.list = []
        · rw [if_pos h2] at hs; cases hs
        · rw [if_neg h2] at hs
          rcases hf _ hm with ⟨hn, _⟩ | ⟨_, _, _, _, h3, h6⟩
          · exact ((docn_leaf hn).1 h1).elim
          · exact manyE_subs (d := 2 * d + 3) (by have h3' : y.list.length ≤ 3 := h3; omega) (fun x hx t ht => doc_subs d F x t (h6 x hx) ht) hs
      · rw [if_neg h1] at hs
        by_cases h2 : pre36 nm = true
        · rw [if_pos h2] at hs; cases hs
        · rw [if_neg h2] at hs
          by_cases h3 : pathOk nm = false
          · rw [if_pos h3] at hs; cases hs
          · rw [if_neg h3] at hs
            rcases hf _ hm with ⟨_, hl⟩ | ⟨hn, _⟩
            · by_cases h4 : isTests y = true
              · rw [if_pos h4] at hs
                refine SubsN_le (by omega : 2 ≤ 2 * d + 4) (manyE_subs (d := 1) ?_ (fun t _ u hu => ?_) hs)
                · rcases hl with hg | ⟨_, _, _, hn2, _⟩
                  · have h8 := hg.2.2.2.2.2.2.1.length_le
                    rw [List.length_map] at h8
                    have h9 : y.fields.length ≤ 4 := h8
                    show y.fields.length ≤ 7
                    omega
                  · have hn2' : y.fields.length ≤ 2 := hn2
                    show y.fields.length ≤ 7
                    omega
                · unfold testF at hu
                  split at hu
                  · cases hu
                  · split at hu
                    · cases hu
                    · injection hu with hu
                      subst hu
                      exact leaf_subs _ _ _
              · rw [if_neg h4] at hs
                injection hs with hs
                subst hs
                exact SubsN_le (by omega : 1 ≤ 2 * d + 4) (leaf_subs _ _ _)
            · exact (h1 (docn_join hn)).elim
set_option maxRecDepth 100000 in
set_option maxHeartbeats 4000000 in
theorem conds_calls (dv : Nat) : ∀ (d D0 : Nat) (f : Flt) (la : Option Addr) (ln lc : Nat) (fa : Option Addr) (fn fc : Nat) (sa : Option Addr) (sn sc : Nat) (ok : Nat → Prop) (w : World), d ≤ D0 → d ≤ 14 → (∀ k, ok k → k < w.heap.size) → SubsN 7 d f → (KF (dv + 1) d).R w ok f [.int .i64 f.op, .string f.path, .int .i64 f.val.kind, .int .i64 f.val.int, .string f.val.text, .slice la ln lc, .slice fa fn fc, .slice sa sn sc] →
    Calls Tryd.prog 22 #[.agg #[.int .i64 f.op, .string f.path, .int .i64 f.val.kind, .int .i64 f.val.int, .string f.val.text, .slice la ln lc, .slice fa fn fc, .slice sa sn sc]] w fun e w' => ∃ (A : Option Addr) (n c : Nat), e = .returned (.slice A n c) ∧ Row (KF (dv + 1) (D0 + 1)) w' (fun k => ok k ∨ w.heap.size ≤ k) A n c (condsD d f) ∧ Below w.heap.size w w'
  | 0, _, _, _, _, _, _, _, _, _, _, _, _, _, _, _, _, h, _ => h.elim
  | d + 1, D0, f, la, ln, lc, fa, fn, fc, sa, sn, sc, ok, w, hD, h13, hok, hS, hR => by
    obtain ⟨i0, hi, hzz⟩ := Option.map_eq_some_iff.1 Tryd.infoFl
    simp only [Prod.mk.injEq] at hzz
    have HI := Ap.of (And.intro hi hzz)
    by_cases h0 : f.op = 0
    · have HC := Ap.of (show condsD (d + 1) f = f.subs.flatMap (condsD d) by unfold condsD; rw [if_pos h0])
      have hr := (KF_parts hR).2.2.2
      have hln := hr.length
      have hcap := hr.cap
      have HRW := Ap.of hr
      have HLN := Ap.of hln
      have HSB := Ap.of hS
      have HOK := Ap.of hok
      have HD := Ap.of (And.intro hD h13)
      have IH := Ap.of (fun (s : Flt) (la2 : Option Addr) (ln2 lc2 : Nat) (fa2 : Option Addr) (fn2 fc2 : Nat) (sa2 : Option Addr) (sn2 sc2 : Nat) (W : World) (hW : ∀ k, ok k → k < W.heap.size) (hs : SubsN 7 d s) (hsR : (KF (dv + 1) d).R W ok s [.int .i64 s.op, .string s.path, .int .i64 s.val.kind, .int .i64 s.val.int, .string s.val.text, .slice la2 ln2 lc2, .slice fa2 fn2 fc2, .slice sa2 sn2 sc2]) => conds_calls dv d D0 s la2 ln2 lc2 fa2 fn2 fc2 sa2 sn2 sc2 ok W (by omega) (by omega) hW hs hsR)
      clear hr hln hS hok hR hi hzz hD h13
      generalize condsD (d + 1) f = out at *
      generalize hsubs : f.subs = xs at *
      have HXS := Ap.of (show xs.length ≤ 7 ∧ ∀ s ∈ xs, SubsN 7 d s by rw [← hsubs]; exact HSB.out)
      clear hsubs
      generalize f.path = fp at *
      generalize f.val.kind = fk at *
      generalize f.val.int = fi at *
      generalize f.val.text = ft at *
      generalize f.op = fo at *
      subst h0
      go_enter Tryd.func22, Tryd.ntmps22
      go_wp2_with fail
      go_loopw [3, 14] (fun v3 vi wr => ∃ (k : Nat) (pre : List Flt) (A0 : Option Addr) (c0 : Nat), k ≤ sn ∧ vi = .int .i64 k ∧ v3 = .slice A0 pre.length c0 ∧ Ap (pre = (xs.take k).flatMap (condsD d)) ∧ Ap (Own (KF (dv + 1) (D0 + 1)) 32 w.heap.size wr (fun j => ok j ∨ w.heap.size ≤ j) (.slice A0 pre.length c0) pre) ∧ Ap (Below w.heap.size w wr)) (fun _ vi _ => sn - (intOf vi).toNat)
      case atStart => exact ⟨0, [], none, 0, Nat.zero_le _, rfl, rfl, Ap.of rfl, Ap.of (Own.nil _ _ _ _ _), Ap.of (bel_alloc _ _)⟩
      case round =>
        obtain ⟨k, pre, A0, c0', hk, rfl, rfl, HPR, HOW, BL⟩ := hrel
        by_cases hlt : k < sn
        · obtain ⟨g2, off, s, la2, ln2, lc2, fa2, fn2, fc2, sa2, sn2, sc2, rfl, hx, hrs, c0, c1, c2, c3, c4, c5, c6, c7⟩ := flt_cells (HRW.out.below BL.out) hlt
          have hba := bel_alloc wr (.cells #[.int .i64 s.op, .string s.path, .int .i64 s.val.kind, .int .i64 s.val.int, .string s.val.text, .slice la2 ln2 lc2, .slice fa2 fn2 fc2, .slice sa2 sn2 sc2] 32)
          have hss := HXS.out.2 s (List.mem_of_getElem? hx)
          have HCL := Ap.of (IH.out s la2 ln2 lc2 fa2 fn2 fc2 sa2 sn2 sc2 (wr.alloc (.cells #[.int .i64 s.op, .string s.path, .int .i64 s.val.kind, .int .i64 s.val.int, .string s.val.text, .slice la2 ln2 lc2, .slice fa2 fn2 fc2, .slice sa2 sn2 sc2] 32)) (fun j hj => Nat.lt_of_lt_of_le (HOK.out j hj) (Nat.le_trans BL.out.size hba.size)) hss (Knd.below hrs hba))
          have HCN := Ap.of (conds_len d s hss)
          have HPN := Ap.of (show pre.length ≤ 7 * 7 ^ d by
            rw [HPR.out]
            have h1 := flatN_len (condsD d) (7 ^ d) (xs.take k) (fun t ht => conds_len d t (HXS.out.2 t (List.mem_of_mem_take ht)))
            have h2 : (xs.take k).length ≤ 7 := by rw [List.length_take]; have := HXS.out.1; omega
            have h3 := Nat.mul_le_mul h2 (Nat.le_refl (7 ^ d))
            omega)
          have HP7 := Ap.of (pow7_le (show d ≤ 13 by have := HD.out.2; omega))
          have HX := Ap.of (flatL_next (condsD d) hx)
          have HBA := Ap.of hba
          have HSZ := Ap.of (show (wr.alloc (.cells #[.int .i64 s.op, .string s.path, .int .i64 s.val.kind, .int .i64 s.val.int, .string s.val.text, .slice la2 ln2 lc2, .slice fa2 fn2 fc2, .slice sa2 sn2 sc2] 32)).heap.size = wr.heap.size + 1 by simp)
          have HLT := Ap.of hlt
          have hlt' : (k : Int) < (sn : Int) := by omega
          have lc0 := World.block_lt_of_cell? _ _ c0
          clear hx hrs hba hss
          generalize condsD d s = cs at *
          go_wp2_with fail
          refine HCL.out.mono ?_
          rintro e w3 ⟨A, n, c, rfl, hrow, hb⟩
          have hbU := bel_step HBA.out hb
          have HOW3 := Ap.of (HOW.out.below hbU)
          have HROW := Ap.of hrow
          have HRL := Ap.of hrow.length
          have HWS := Ap.of (Nat.le_trans BL.out.size hbU.size)
          have HLTB := Ap.of HOW.out.lt
          have HB3 := Ap.of (bel_stepB BL.out BL.out.size hbU)
          have HWR := Ap.of BL.out.size
          clear hrow hb hbU
          go_wp2_with (at_builtin; refine wp_appendN (K := KF (dv + 1) (D0 + 1)) (e := 32) (B := w.heap.size) (ok := fun j => ok j ∨ w.heap.size ≤ j) (okx := fun j => ok j ∨ wr.heap.size + 1 ≤ j) (xs := pre) (ys := cs) rfl _ _ 30 i0 _ 128 rfl Tryd.underlying30 HI.out.1 HI.out.2.1 HI.out.2.2.1 HI.out.2.2.2 rfl (Nat.succ_pos 7) rfl rfl ?a1 ?a2 ?a3 ?a4 ?a5 ?a6 ?a7 ?_)
          case a1 => exact HOW3.out
          case a2 => exact Row.mono (fun j hj => hj.elim .inl (fun h => .inr (by have := HSZ.out; omega))) HROW.out
          case a3 =>
            intro j hj
            refine ⟨hj.elim .inl (fun h => .inr (by have := HWR.out; omega)), fun he => ?_⟩
            have h2 := HLTB.out j he.symm
            rcases hj with h | h
            · have := HOK.out j h; omega
            · omega
          case a4 => intro j hj; have := HWS.out; exact .inr (by omega)
          case a5 =>
            have h1 := HPN.out; have h2 := HCN.out; have h3 := HP7.out; have h4 := HRL.out
            omega
          case a6 =>
            have h1 := HPN.out; have h2 := HCN.out; have h3 := HP7.out; have h4 := HRL.out
            omega
          case a7 => exact HWS.out
          intro v' w4 hown honly
          obtain ⟨p2, hp2⟩ : ∃ p2, p2 = pre ++ cs := ⟨_, rfl⟩
          rw [← hp2] at hown
          have HP2 := Ap.of hp2
          clear hp2
          obtain ⟨A4, c4', rfl, _, _⟩ := hown.slice
          have HO4 := Ap.of hown
          have HB4 := Ap.of (bel_only HB3.out HWS.out honly (fun j hj => (HLTB.out j hj).1))
          clear hown honly
          go_wp2_with fail
          go_roundw
          case rel => exact ⟨k + 1, p2, A4, c4', by have := HLT.out; omega, by go_num, rfl, Ap.of (by rw [HP2.out, HX.out, HPR.out]), HO4, HB4⟩
          case measure => have := HLT.out; simp [intOf]; omega
        · obtain rfl : k = sn := by omega
          have hlt' : ¬ (k : Int) < (k : Int) := by omega
          have HTK := Ap.of (show pre = out by rw [HPR.out, HC.out, ← HLN.out, List.take_length])
          obtain ⟨A, c, hv, hrow⟩ := HOW.out.row
          injection hv with hv1 _ hv3
          subst hv1 hv3
          have HRO := Ap.of hrow
          clear hrow HOW
          go_wp2_with fail
          go_ret
          exact ⟨_, _, _, rfl, by rw [← HTK.out]; exact HRO.out, BL.out⟩
    · have HC := Ap.of (show condsD (d + 1) f = [f] by unfold condsD; rw [if_neg h0])
      have t0 : (f.op == 0) = false := by simpa using h0
      have HRR := Ap.of hR
      have HOK := Ap.of hok
      have HD := Ap.of hD
      clear hR hok hS hi hzz hD h13
      generalize condsD (d + 1) f = out at *
      generalize hf0 : f.op = fo at *
      generalize hf1 : f.path = fp at *
      generalize hf2 : f.val.kind = fk at *
      generalize hf3 : f.val.int = fi at *
      generalize hf4 : f.val.text = ft at *
      clear hf0 hf1 hf2 hf3 hf4
      go_enter Tryd.func22, Tryd.ntmps22
      go_wp2_with fail
      go_ret
      have hb := bel_step (bel_alloc w (.cells #[.int .i64 fo, .string fp, .int .i64 fk, .int .i64 fi, .string ft, .slice la ln lc, .slice fa fn fc, .slice sa sn sc] 32)) (bel_alloc _ (.cells #[.int .i64 fo, .string fp, .int .i64 fk, .int .i64 fi, .string ft, .slice la ln lc, .slice fa fn fc, .slice sa sn sc] 32))
      have hbk := blk_new (w := w.alloc (.cells #[.int .i64 fo, .string fp, .int .i64 fk, .int .i64 fi, .string ft, .slice la ln lc, .slice fa fn fc, .slice sa sn sc] 32)) (k := w.heap.size + 1) (o := .cells #[.int .i64 fo, .string fp, .int .i64 fk, .int .i64 fi, .string ft, .slice la ln lc, .slice fa fn fc, .slice sa sn sc] 32) (by simp)
      refine ⟨some ⟨w.heap.size + 1, 0, none⟩, 1, 1, rfl, ?_, hb⟩
      rw [HC.out]
      refine .inr ⟨w.heap.size + 1, 0, rfl, rfl, Nat.le_refl _, by unfold maxLen; decide, .inr (by omega), blk_lt hbk, fun i x hi => ?_⟩
      rcases i with _ | i
      · simp at hi
        subst hi
        refine ⟨_, (KF (dv + 1) (D0 + 1)).mono (fun j hj => .inl hj) (KF_le (by have := HD.out; omega) _ _ _ _ (Knd.below HRR.out hb)), fun j u hj => ?_⟩
        rw [blk_cells hbk]
        simpa using hj
      · simp at hi
set_option maxRecDepth 100000 in
set_option maxHeartbeats 4000000 in
theorem flat_calls (dv : Nat) : ∀ (d D0 : Nat) (f : Flt) (la : Option Addr) (ln lc : Nat) (fa : Option Addr) (fn fc : Nat) (sa : Option Addr) (sn sc : Nat) (ok : Nat → Prop) (w : World), d ≤ D0 → d ≤ 14 → (∀ k, ok k → k < w.heap.size) → SubsN 7 d f → (KF (dv + 1) d).R w ok f [.int .i64 f.op, .string f.path, .int .i64 f.val.kind, .int .i64 f.val.int, .string f.val.text, .slice la ln lc, .slice fa fn fc, .slice sa sn sc] →
    Calls Tryd.prog 24 #[.agg #[.int .i64 f.op, .string f.path, .int .i64 f.val.kind, .int .i64 f.val.int, .string f.val.text, .slice la ln lc, .slice fa fn fc, .slice sa sn sc]] w fun e w' => ∃ (A : Option Addr) (n c : Nat), e = .returned (.slice A n c) ∧ Row (KF (dv + 1) (D0 + 1)) w' (fun k => ok k ∨ w.heap.size ≤ k) A n c (condsD d f) ∧ Below w.heap.size w w'
  | 0, _, _, _, _, _, _, _, _, _, _, _, _, _, _, _, _, h, _ => h.elim
  | d + 1, D0, f, la, ln, lc, fa, fn, fc, sa, sn, sc, ok, w, hD, h13, hok, hS, hR => by
    obtain ⟨i0, hi, hzz⟩ := Option.map_eq_some_iff.1 Tryd.infoFl
    simp only [Prod.mk.injEq] at hzz
    have HI := Ap.of (And.intro hi hzz)
    by_cases h0 : f.op = 0
    · have HC := Ap.of (show condsD (d + 1) f = f.subs.flatMap (condsD d) by unfold condsD; rw [if_pos h0])
      have hr := (KF_parts hR).2.2.2
      have hln := hr.length
      have hcap := hr.cap
      have HRW := Ap.of hr
      have HLN := Ap.of hln
      have HSB := Ap.of hS
      have HOK := Ap.of hok
      have HD := Ap.of (And.intro hD h13)
      have IH := Ap.of (fun (s : Flt) (la2 : Option Addr) (ln2 lc2 : Nat) (fa2 : Option Addr) (fn2 fc2 : Nat) (sa2 : Option Addr) (sn2 sc2 : Nat) (W : World) (hW : ∀ k, ok k → k < W.heap.size) (hs : SubsN 7 d s) (hsR : (KF (dv + 1) d).R W ok s [.int .i64 s.op, .string s.path, .int .i64 s.val.kind, .int .i64 s.val.int, .string s.val.text, .slice la2 ln2 lc2, .slice fa2 fn2 fc2, .slice sa2 sn2 sc2]) => flat_calls dv d D0 s la2 ln2 lc2 fa2 fn2 fc2 sa2 sn2 sc2 ok W (by omega) (by omega) hW hs hsR)
      clear hr hln hS hok hR hi hzz hD h13
      generalize condsD (d + 1) f = out at *
      generalize hsubs : f.subs = xs at *
      have HXS := Ap.of (show xs.length ≤ 7 ∧ ∀ s ∈ xs, SubsN 7 d s by rw [← hsubs]; exact HSB.out)
      clear hsubs
      generalize f.path = fp at *
      generalize f.val.kind = fk at *
      generalize f.val.int = fi at *
      generalize f.val.text = ft at *
      generalize f.op = fo at *
      subst h0
      go_enter Tryd.func24, Tryd.ntmps24
      go_wp2_with fail
      go_loopw [3, 14] (fun v3 vi wr => ∃ (k : Nat) (pre : List Flt) (A0 : Option Addr) (c0 : Nat), k ≤ sn ∧ vi = .int .i64 k ∧ v3 = .slice A0 pre.length c0 ∧ Ap (pre = (xs.take k).flatMap (condsD d)) ∧ Ap (Own (KF (dv + 1) (D0 + 1)) 32 w.heap.size wr (fun j => ok j ∨ w.heap.size ≤ j) (.slice A0 pre.length c0) pre) ∧ Ap (Below w.heap.size w wr)) (fun _ vi _ => sn - (intOf vi).toNat)
      case atStart => exact ⟨0, [], none, 0, Nat.zero_le _, rfl, rfl, Ap.of rfl, Ap.of (Own.nil _ _ _ _ _), Ap.of (bel_alloc _ _)⟩
      case round =>
        obtain ⟨k, pre, A0, c0', hk, rfl, rfl, HPR, HOW, BL⟩ := hrel
        by_cases hlt : k < sn
        · obtain ⟨g2, off, s, la2, ln2, lc2, fa2, fn2, fc2, sa2, sn2, sc2, rfl, hx, hrs, c0, c1, c2, c3, c4, c5, c6, c7⟩ := flt_cells (HRW.out.below BL.out) hlt
          have hba := bel_alloc wr (.cells #[.int .i64 s.op, .string s.path, .int .i64 s.val.kind, .int .i64 s.val.int, .string s.val.text, .slice la2 ln2 lc2, .slice fa2 fn2 fc2, .slice sa2 sn2 sc2] 32)
          have hss := HXS.out.2 s (List.mem_of_getElem? hx)
          have HCL := Ap.of (IH.out s la2 ln2 lc2 fa2 fn2 fc2 sa2 sn2 sc2 (wr.alloc (.cells #[.int .i64 s.op, .string s.path, .int .i64 s.val.kind, .int .i64 s.val.int, .string s.val.text, .slice la2 ln2 lc2, .slice fa2 fn2 fc2, .slice sa2 sn2 sc2] 32)) (fun j hj => Nat.lt_of_lt_of_le (HOK.out j hj) (Nat.le_trans BL.out.size hba.size)) hss (Knd.below hrs hba))
          have HCN := Ap.of (conds_len d s hss)
          have HPN := Ap.of (show pre.length ≤ 7 * 7 ^ d by
            rw [HPR.out]
            have h1 := flatN_len (condsD d) (7 ^ d) (xs.take k) (fun t ht => conds_len d t (HXS.out.2 t (List.mem_of_mem_take ht)))
            have h2 : (xs.take k).length ≤ 7 := by rw [List.length_take]; have := HXS.out.1; omega
            have h3 := Nat.mul_le_mul h2 (Nat.le_refl (7 ^ d))
            omega)
          have HP7 := Ap.of (pow7_le (show d ≤ 13 by have := HD.out.2; omega))
          have HX := Ap.of (flatL_next (condsD d) hx)
          have HBA := Ap.of hba
          have HSZ := Ap.of (show (wr.alloc (.cells #[.int .i64 s.op, .string s.path, .int .i64 s.val.kind, .int .i64 s.val.int, .string s.val.text, .slice la2 ln2 lc2, .slice fa2 fn2 fc2, .slice sa2 sn2 sc2] 32)).heap.size = wr.heap.size + 1 by simp)
          have HLT := Ap.of hlt
          have hlt' : (k : Int) < (sn : Int) := by omega
          have lc0 := World.block_lt_of_cell? _ _ c0
          clear hx hrs hba hss
          generalize condsD d s = cs at *
          go_wp2_with fail
          refine HCL.out.mono ?_
          rintro e w3 ⟨A, n, c, rfl, hrow, hb⟩
          have hbU := bel_step HBA.out hb
          have HOW3 := Ap.of (HOW.out.below hbU)
          have HROW := Ap.of hrow
          have HRL := Ap.of hrow.length
          have HWS := Ap.of (Nat.le_trans BL.out.size hbU.size)
          have HLTB := Ap.of HOW.out.lt
          have HB3 := Ap.of (bel_stepB BL.out BL.out.size hbU)
          have HWR := Ap.of BL.out.size
          clear hrow hb hbU
          go_wp2_with (at_builtin; refine wp_appendN (K := KF (dv + 1) (D0 + 1)) (e := 32) (B := w.heap.size) (ok := fun j => ok j ∨ w.heap.size ≤ j) (okx := fun j => ok j ∨ wr.heap.size + 1 ≤ j) (xs := pre) (ys := cs) rfl _ _ 30 i0 _ 128 rfl Tryd.underlying30 HI.out.1 HI.out.2.1 HI.out.2.2.1 HI.out.2.2.2 rfl (Nat.succ_pos 7) rfl rfl ?a1 ?a2 ?a3 ?a4 ?a5 ?a6 ?a7 ?_)
          case a1 => exact HOW3.out
          case a2 => exact Row.mono (fun j hj => hj.elim .inl (fun h => .inr (by have := HSZ.out; omega))) HROW.out
          case a3 =>
            intro j hj
            refine ⟨hj.elim .inl (fun h => .inr (by have := HWR.out; omega)), fun he => ?_⟩
            have h2 := HLTB.out j he.symm
            rcases hj with h | h
            · have := HOK.out j h; omega
            · omega
          case a4 => intro j hj; have := HWS.out; exact .inr (by omega)
          case a5 =>
            have h1 := HPN.out; have h2 := HCN.out; have h3 := HP7.out; have h4 := HRL.out
            omega
          case a6 =>
            have h1 := HPN.out; have h2 := HCN.out; have h3 := HP7.out; have h4 := HRL.out
            omega
          case a7 => exact HWS.out
          intro v' w4 hown honly
          obtain ⟨p2, hp2⟩ : ∃ p2, p2 = pre ++ cs := ⟨_, rfl⟩
          rw [← hp2] at hown
          have HP2 := Ap.of hp2
          clear hp2
          obtain ⟨A4, c4', rfl, _, _⟩ := hown.slice
          have HO4 := Ap.of hown
          have HB4 := Ap.of (bel_only HB3.out HWS.out honly (fun j hj => (HLTB.out j hj).1))
          clear hown honly
          go_wp2_with fail
          go_roundw
          case rel => exact ⟨k + 1, p2, A4, c4', by have := HLT.out; omega, by go_num, rfl, Ap.of (by rw [HP2.out, HX.out, HPR.out]), HO4, HB4⟩
          case measure => have := HLT.out; simp [intOf]; omega
        · obtain rfl : k = sn := by omega
          have hlt' : ¬ (k : Int) < (k : Int) := by omega
          have HTK := Ap.of (show pre = out by rw [HPR.out, HC.out, ← HLN.out, List.take_length])
          obtain ⟨A, c, hv, hrow⟩ := HOW.out.row
          injection hv with hv1 _ hv3
          subst hv1 hv3
          have HRO := Ap.of hrow
          clear hrow HOW
          go_wp2_with fail
          go_ret
          exact ⟨_, _, _, rfl, by rw [← HTK.out]; exact HRO.out, BL.out⟩
    · have HC := Ap.of (show condsD (d + 1) f = [f] by unfold condsD; rw [if_neg h0])
      have t0 : (f.op == 0) = false := by simpa using h0
      have HRR := Ap.of hR
      have HOK := Ap.of hok
      have HD := Ap.of hD
      clear hR hok hS hi hzz hD h13
      generalize condsD (d + 1) f = out at *
      generalize hf0 : f.op = fo at *
      generalize hf1 : f.path = fp at *
      generalize hf2 : f.val.kind = fk at *
      generalize hf3 : f.val.int = fi at *
      generalize hf4 : f.val.text = ft at *
      clear hf0 hf1 hf2 hf3 hf4
      go_enter Tryd.func24, Tryd.ntmps24
      go_wp2_with fail
      go_ret
      have hb := bel_step (bel_alloc w (.cells #[.int .i64 fo, .string fp, .int .i64 fk, .int .i64 fi, .string ft, .slice la ln lc, .slice fa fn fc, .slice sa sn sc] 32)) (bel_alloc _ (.cells #[.int .i64 fo, .string fp, .int .i64 fk, .int .i64 fi, .string ft, .slice la ln lc, .slice fa fn fc, .slice sa sn sc] 32))
      have hbk := blk_new (w := w.alloc (.cells #[.int .i64 fo, .string fp, .int .i64 fk, .int .i64 fi, .string ft, .slice la ln lc, .slice fa fn fc, .slice sa sn sc] 32)) (k := w.heap.size + 1) (o := .cells #[.int .i64 fo, .string fp, .int .i64 fk, .int .i64 fi, .string ft, .slice la ln lc, .slice fa fn fc, .slice sa sn sc] 32) (by simp)
      refine ⟨some ⟨w.heap.size + 1, 0, none⟩, 1, 1, rfl, ?_, hb⟩
      rw [HC.out]
      refine .inr ⟨w.heap.size + 1, 0, rfl, rfl, Nat.le_refl _, by unfold maxLen; decide, .inr (by omega), blk_lt hbk, fun i x hi => ?_⟩
      rcases i with _ | i
      · simp at hi
        subst hi
        refine ⟨_, (KF (dv + 1) (D0 + 1)).mono (fun j hj => .inl hj) (KF_le (by have := HD.out; omega) _ _ _ _ (Knd.below HRR.out hb)), fun j u hj => ?_⟩
        rw [blk_cells hbk]
        simpa using hj
      · simp at hi
end Go.Proofs.YtlomieopppndeaaDoor
