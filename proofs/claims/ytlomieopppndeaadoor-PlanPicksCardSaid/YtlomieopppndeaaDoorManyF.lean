/- filter.many: conditions, one after another: each read by filter.field. -/
import Derived.Test.YtlomieopppndeaaDoorTestWalk
namespace Go.Proofs.YtlomieopppndeaaDoor
open Go.RowKit
set_option maxRecDepth 100000 in
set_option maxHeartbeats 4000000 in
theorem manyF_calls (dv d D : Nat) (op : Int) (hop : inI64 op) (A : Option Addr) (n c : Nat) (xs : List Fld) (ok : Nat → Prop) (w : World) (hok : ∀ k, ok k → k < w.heap.size) (hn : n ≤ 1000000) (hrow : Row (KFld (KV (D + 1))) w ok A n c xs) (one : Fld → Except Int Flt)
    (hone : ∀ (nm : ByteArray) (y : Val) (la2 : Option Addr) (ln2 lc2 : Nat) (fa2 : Option Addr) (fn2 fc2 : Nat) (W : World), Below w.heap.size w W → nm.size ≤ maxLen → (KV (D + 1)).R W ok y [.int .i64 y.kind, .int .i64 y.int, .string y.text, .slice la2 ln2 lc2, .slice fa2 fn2 fc2] → (nm, y) ∈ xs → Calls Tryd.prog 36 #[.agg #[.string nm, .int .i64 y.kind, .int .i64 y.int, .string y.text, .slice la2 ln2 lc2, .slice fa2 fn2 fc2]] W (ResP dv d W ok (one (nm, y)))) :
    Calls Tryd.prog 35 #[.int .i64 op, .slice A n c, .func (.func 36) #[] #[]] w (ResP dv (d + 1) w ok (manyE op one xs)) := by
  have hlen := hrow.length
  have hcap := hrow.cap
  obtain ⟨i0, hi, hzz⟩ := Option.map_eq_some_iff.1 Tryd.infoFl
  simp only [Prod.mk.injEq] at hzz
  have HI := Ap.of (And.intro hi hzz)
  have H := Ap.of hrow.bound
  have HLN := Ap.of hlen
  have HONE := Ap.of hone
  have HOK := Ap.of hok
  have HOP := Ap.of hop
  have HNB := Ap.of hn
  have hres : manyE op one xs = match mapE one xs with
    | .error e => .error e
    | .ok ss => .ok (.mk op ⟨#[]⟩ Val.zero ss) := rfl
  have HRS := Ap.of hres
  clear hi hzz hrow hlen hone hok hop hn hres
  generalize manyE op one xs = res at *
  go_enter Tryd.func35, Tryd.ntmps35
  go_wp2_with fail
  go_loopw [17] (fun vi wr => ∃ (k : Nat) (ss : List Flt) (A' : Option Addr) (c' : Nat), k ≤ n ∧ vi = .int .i64 k ∧ Ap (mapE one (xs.take k) = .ok ss) ∧ Ap (ss.length = k) ∧ Ap (wr.heap[w.heap.size]? = some (.cells #[.int .i64 0, .string ⟨#[]⟩, .int .i64 0, .int .i64 0, .string ⟨#[]⟩, .slice none 0 0, .slice none 0 0, .slice none 0 0] 32 (0, 0))) ∧
    Ap (wr.heap[w.heap.size + 1]? = some (.cells #[.int .i64 op, .string ⟨#[]⟩, .int .i64 0, .int .i64 0, .string ⟨#[]⟩, .slice none 0 0, .slice none 0 0, .slice A' k c'] 32 (0, 0))) ∧ Ap (Own (KF (dv + 1) (d + 1)) 32 (w.heap.size + 2) wr (fun j => ok j ∨ w.heap.size + 2 ≤ j) (.slice A' k c') ss) ∧ Ap (Below w.heap.size w wr)) (fun vi _ => n - (intOf vi).toNat)
  case atStart => exact ⟨0, [], none, 0, Nat.zero_le _, rfl, Ap.of (by simp [mapE]), Ap.of rfl, Ap.of (blk_old (blk_new rfl)), Ap.of (blk_new (by simp)), Ap.of (Own.nil _ _ _ _ _), Ap.of (bel_step (bel_alloc _ _) (bel_alloc _ _))⟩
  case round =>
    obtain ⟨k, ss, A', c', hk, rfl, HM, HSL, B6, B8, O, BL⟩ := hrel
    by_cases hlt : k < n
    · obtain ⟨g2, off, nm, y, la2, ln2, lc2, fa2, fn2, fc2, rfl, hx, hnm, hr, c0, c1, c2, c3, c4, c5⟩ := fld_cells (Row.below H.out BL.out) hlt
      have HX := Ap.of hx
      have hcall := HONE.out nm y la2 ln2 lc2 fa2 fn2 fc2 (wr.alloc (.cells #[.string nm, .int .i64 y.kind, .int .i64 y.int, .string y.text, .slice la2 ln2 lc2, .slice fa2 fn2 fc2] 69)) (bel_stepB BL.out BL.out.size (bel_alloc _ _)) hnm (Knd.below ((KV (D + 1)).mono (fun k hk => hk.1) hr) (bel_alloc _ _)) (List.mem_of_getElem? hx)
      generalize hr1 : one (nm, y) = r1 at *
      have HC := Ap.of hcall
      have HR1 := Ap.of hr1
      have WS : Ap (w.heap.size + 2 ≤ wr.heap.size) := Ap.of (blk_lt B8.out)
      have HLT := Ap.of hlt
      clear hx hr hcall hr1
      go_wp2_with fail
      refine HC.out.mono ?_
      rintro e w3 ⟨f, la, ln, lc, fa, fn, fc, sa, sn, sc, er, rfl, hR, hb, hd⟩
      have hb3 := bel_step (bel_alloc wr (.cells #[.string nm, .int .i64 y.kind, .int .i64 y.int, .string y.text, .slice la2 ln2 lc2, .slice fa2 fn2 fc2] 69)) hb
      have HB3 := Ap.of hb3
      have HB13 := Ap.of (bel_stepB BL.out BL.out.size hb3)
      have HR := Ap.of hR
      have b6 := blk_bel B6.out hb3
      have b8 := blk_bel B8.out hb3
      have HB6 := Ap.of b6
      have HB8 := Ap.of b8
      have S13 := Ap.of hb3.size
      have hsplit : xs = xs.take k ++ (nm, y) :: xs.drop (k + 1) := by
        have hkl : k < xs.length := by rw [HLN.out]; exact HLT.out
        have h1 := HX.out
        rw [List.getElem?_eq_getElem hkl] at h1
        injection h1 with h1
        rw [← h1, ← List.drop_eq_getElem_cons hkl, List.take_append_drop]
      have HSP := Ap.of hsplit
      clear hR hb hb3 hsplit B6 B8 HC
      rcases hd with ⟨hr1, rfl⟩ | ⟨ce, m, g, hr1, hfz, rfl, hE⟩
      · have HR1' := Ap.of (HR1.out.trans hr1)
        have d8 := blk_cells b8
        have f8 := blk_free b8
        have l8 := blk_lt b8
        have LT := Ap.of O.out.lt
        have OB := Ap.of O.out.1
        clear hr1 b6 b8 c0 c1 c2 c3 c4 c5
        generalize f.op = fo at *
        generalize f.path = fp at *
        generalize f.val.kind = fk at *
        generalize f.val.int = fi at *
        generalize f.val.text = ft at *
        have X1 := Ap.of (((O.out.below HB3.out).below (bel_alloc w3 (.cells #[.int .i64 fo, .string fp, .int .i64 fk, .int .i64 fi, .string ft, .slice la ln lc, .slice fa fn fc, .slice sa sn sc] 32))).below (bel_alloc _ (.cells #[.int .i64 fo, .string fp, .int .i64 fk, .int .i64 fi, .string ft, .slice la ln lc, .slice fa fn fc, .slice sa sn sc] 32)))
        go_wp2_with (at_builtin; refine wp_append (K := KF (dv + 1) (d + 1)) (tx := 32) (gx := w3.heap.size + 1) (e := 32) (B := w.heap.size + 2) (ok := fun j => ok j ∨ w.heap.size + 2 ≤ j) (okx := fun j => ok j ∨ wr.heap.size + 1 ≤ j) (xs := ss) (x := f) (cs := [.int .i64 fo, .string fp, .int .i64 fk, .int .i64 fi, .string ft, .slice la ln lc, .slice fa fn fc, .slice sa sn sc]) rfl _ _ 30 i0 _ 128 rfl Tryd.underlying30 HI.out.1 HI.out.2.1 HI.out.2.2.1 HI.out.2.2.2 rfl (Nat.succ_pos 7) rfl rfl ?a1 ?a2 ?a3 ?a4 ?a5 ?a6 ?a7 ?a8 ?_)
        case a1 => exact X1.out
        case a2 => exact blk_new (by simp)
        case a3 => exact Knd.below (Knd.below ((KF (dv + 1) (d + 1)).mono (fun j hj => by simpa using hj) HR.out) (bel_alloc _ _)) (bel_alloc _ _)
        case a4 =>
          intro j hj
          have h1 := WS.out
          refine ⟨hj.elim .inl (fun h => .inr (by omega)), fun he => ?_⟩
          have h2 := LT.out j he.symm
          rcases hj with h | h
          · have := HOK.out j h; omega
          · omega
        case a5 => intro j hj; have := WS.out; have := S13.out; (try simp at hj); exact .inr (by omega)
        case a6 => have := HSL.out; have := HNB.out; omega
        case a7 => have := HSL.out; have := HNB.out; omega
        case a8 => have := WS.out; have := S13.out; (try simp); omega
        intro v5 w5 hO5 honly
        obtain ⟨A5, c5, hv5, _, _⟩ := hO5.slice
        rw [show (ss ++ [f]).length = k + 1 from by simp [HSL.out]] at hv5
        have BL5 := Ap.of (bel_only (bel_stepB (bel_stepB HB13.out HB13.out.size (bel_alloc w3 (.cells #[.int .i64 fo, .string fp, .int .i64 fk, .int .i64 fi, .string ft, .slice la ln lc, .slice fa fn fc, .slice sa sn sc] 32))) (by have := HB13.out.size; simp; omega) (bel_alloc _ (.cells #[.int .i64 fo, .string fp, .int .i64 fk, .int .i64 fi, .string ft, .slice la ln lc, .slice fa fn fc, .slice sa sn sc] 32))) (by have := HB13.out.size; simp; omega) honly (fun j he => by have := (LT.out j he).1; omega))
        subst hv5
        have O5 := Ap.of hO5
        have b6' := blk_only (blk_old (blk_old HB6.out)) honly (fun he => by have := (LT.out _ he).1; omega)
        have b8' := blk_only (blk_old (blk_old HB8.out)) honly (fun he => by have := (LT.out _ he).1; omega)
        have HB6' := Ap.of b6'
        have HB8' := Ap.of b8'
        have e8 := blk_cells b8'
        have fe8 := blk_free b8'
        have le8 := blk_lt b8'
        clear honly hO5 X1 b6' b8' d8 f8 l8
        go_wp2_with fail
        go_roundw
        case rel =>
          have hs := Only.setCell w5 ⟨w.heap.size + 1, 7, none⟩ (.slice A5 (k + 1) c5)
          refine ⟨k + 1, ss ++ [f], A5, c5, by have := HLT.out; omega, by go_num, Ap.of ?_, Ap.of (by simp [HSL.out]), Ap.of (blk_only HB6'.out hs (by simp)), Ap.of (by simpa using blk_set HB8'.out 7 (.slice A5 (k + 1) c5)), Ap.of (O5.out.only hs (fun j hj he => by
            simp at he
            rcases hj with h | h
            · have := HOK.out j h; omega
            · omega)), Ap.of (bel_only BL5.out BL5.out.size hs (fun j he => by simp at he; omega))⟩
          have hkl : k < xs.length := by rw [HLN.out]; exact HLT.out
          have h1 := HX.out
          rw [List.getElem?_eq_getElem hkl] at h1
          injection h1 with h1
          rw [List.take_succ_eq_append_getElem hkl, h1]
          exact mapE_next HM.out HR1'.out
        case measure => have := HLT.out; simp [intOf]; omega
      · have HE := Ap.of hE
        have hres2 : res = .error ce := by
          rw [HRS.out, HSP.out, mapE_err _ HM.out (HR1.out.trans hr1)]
        have HRES := Ap.of hres2
        have d6 := blk_cells b6
        have f6 := blk_free b6
        have l6 := blk_lt b6
        clear hr1 hE b6 b8 c0 c1 c2 c3 c4 c5 hres2 hfz HR
        generalize f.op = fo at *
        generalize f.path = fp at *
        generalize f.val.kind = fk at *
        generalize f.val.int = fi at *
        generalize f.val.text = ft at *
        go_wp2_with fail
        have hs := only8 w3 w.heap.size (.int .i64 0) (.string ⟨#[]⟩) (.int .i64 0) (.int .i64 0) (.string ⟨#[]⟩) (.slice none 0 0) (.slice none 0 0) (.slice none 0 0)
        have hbb := bel_only HB13.out HB13.out.size hs (fun j he => by omega)
        have hE3 := ErrAt.only hs (fun g2 cs hg2 e => by
          rw [e, HB6.out] at hg2
          simp at hg2) HE.out
        exact bodyPost_ret (v := .tuple #[.agg #[.int .i64 0, .string ⟨#[]⟩, .int .i64 0, .int .i64 0, .string ⟨#[]⟩, .slice none 0 0, .slice none 0 0, .slice none 0 0], .iface 88 (.pointer (some ⟨g, 0, none⟩))]) (by simp [results, Tryd.results35, go_sem, d6, l6]) rfl
          (ResP.err (m := m) HRES.out (ErrAt.below (bel_alloc _ _) hE3) (bel_stepB hbb hbb.size (bel_alloc _ _)))
    · obtain rfl : n = k := by omega
      obtain ⟨A6, c6, hv6, hrow⟩ := O.out.row
      rw [HSL.out] at hv6 hrow
      injection hv6 with hv6 _ hv7
      subst hv6 hv7
      have HROW := Ap.of hrow
      have hres2 : res = .ok (.mk op ⟨#[]⟩ Val.zero ss) := by
        have h1 := HM.out
        rw [← HLN.out, List.take_length] at h1
        rw [HRS.out, h1]
      have HRES := Ap.of hres2
      have d6 := blk_cells B6.out
      have f6 := blk_free B6.out
      have l6 := blk_lt B6.out
      have d8 := blk_cells B8.out
      have l8 := blk_lt B8.out
      clear hrow hres2 hlt
      go_wp2_with fail
      have hs := only8 wr w.heap.size (.int .i64 op) (.string ⟨#[]⟩) (.int .i64 0) (.int .i64 0) (.string ⟨#[]⟩) (.slice none 0 0) (.slice none 0 0) (.slice A' n c')
      exact bodyPost_ret (v := .tuple #[.agg #[.int .i64 op, .string ⟨#[]⟩, .int .i64 0, .int .i64 0, .string ⟨#[]⟩, .slice none 0 0, .slice none 0 0, .slice A' n c'], .nilIface]) (by simp [results, Tryd.results35, go_sem, d6]) rfl
        (ResP.fine (f := .mk op ⟨#[]⟩ Val.zero ss) rfl rfl rfl rfl rfl HRES.out (KF_mk (f := .mk op ⟨#[]⟩ Val.zero ss) HOP.out (by show (⟨#[]⟩ : ByteArray).size ≤ maxLen; decide) (KV_zero _ _ dv) ((HROW.out.only hs (fun j hj he => by
          rcases hj with h | h
          · have := HOK.out j h; omega
          · omega)).mono (fun j hj => hj.elim .inl (fun h => .inr (by omega))))) (bel_only BL.out BL.out.size hs (fun j he => by omega)))
end Go.Proofs.YtlomieopppndeaaDoor
