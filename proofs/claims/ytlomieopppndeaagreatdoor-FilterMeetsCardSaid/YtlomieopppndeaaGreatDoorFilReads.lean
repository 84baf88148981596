/- FilterReads' walk. -/
import Derived.Test.YtlomieopppndeaaGreatDoorFilJoin
import Derived.Test.YtlomieopppndeaaGreatDoorWrongDoc
namespace Go.Proofs.YtlomieopppndeaaGreatDoor
open Go.RowKit
attribute [local go_sem] max2_int min2_int

theorem mapE_len {α : Type} {one : α → Except Int Flt} : ∀ {l : List α} {ss : List Flt}, mapE one l = .ok ss → ss.length = l.length
  | [], ss, h => by injection h with h; subst h; rfl
  | a :: r, ss, h => by
    simp only [mapE] at h
    cases ha : one a with
    | error e => rw [ha] at h; cases h
    | ok s =>
      rw [ha] at h
      cases hr : mapE one r with
      | error e => rw [hr] at h; cases h
      | ok tt =>
        rw [hr] at h
        injection h with h
        subst h
        simp [mapE_len hr]
theorem parse_len {F : Nat} {v : Val} {f : Flt} (h : parseD F v = .ok f) : f.op = 0 ∧ f.subs.length = v.fields.length := by
  unfold parseD parseE at h
  split at h
  · cases h
  · unfold manyE at h
    cases hm : mapE (fieldD F) v.fields with
    | error e => rw [hm] at h; cases h
    | ok ss =>
      rw [hm] at h
      injection h with h
      subst h
      exact ⟨rfl, mapE_len hm⟩
theorem doc3_calls (A : Option Addr) (n c : Nat) (w : World) (ok : Nat → Prop) (hok : ∀ k, ok k → k < w.heap.size) (G : TeG w) (hB : Bs w ok A n c) :
    Calls Tryz.prog 27 #[.slice A n c, .int .i64 3] w fun e w' => ∃ (x : Val) (la : Option Addr) (ln lc : Nat) (fa : Option Addr) (fn fc : Nat) (A : Option Addr) (n c : Nat), e = .returned (.tuple #[.agg #[.int .i64 x.kind, .int .i64 x.int, .string x.text, .slice la ln lc, .slice fa fn fc], .slice A n c]) ∧ (KV 11).R w' (fun k => k < w'.heap.size) x [.int .i64 x.kind, .int .i64 x.int, .string x.text, .slice la ln lc, .slice fa fn fc] ∧ DocV 3 x ∧ Below w.heap.size w w' :=
  (doc16_calls 3 (by decide) (by decide) A n c w ok hok G hB).mono fun _ _ ⟨x, la, ln, lc, fa, fn, fc, A, n, c, he, hx, hd, _, hb⟩ => ⟨x, la, ln, lc, fa, fn, fc, A, n, c, he, R_lt hx, hd, hb⟩
theorem dollar_nok {nm : ByteArray} {v : Val} (hp : pre36 nm = true) (hv : NOk 11 v) : NOk 12 (dollarV nm v) :=
  ⟨Nat.zero_le _, (by show 1 ≤ 1000000; decide), (fun y hy => by cases hy), fun f hf => by
    obtain rfl := List.mem_singleton.1 hf
    exact ⟨.inl hp, hv⟩⟩
theorem dollar_field (F : Nat) (nm : ByteArray) (v : Val) (h0 : nm ≠ ⟨#[36, 97, 110, 100]⟩) (h1 : nm ≠ ⟨#[36, 111, 114]⟩) (hp : pre36 nm = true) : fieldD (F + 1) (nm, v) = .error 8 := by
  unfold fieldD
  rw [if_neg (fun h => h.elim (fun h => h0 (named_first h)) (fun h => h1 (named_second h))), if_pos hp]
theorem dollar_first (s : ByteArray) : (⟨#[36]⟩ ++ s : ByteArray).toList = 36 :: s.toList := by
  rw [Lib.toList_data, Lib.toList_data, ByteArray.data_append]
  simp
theorem dollar_pre (s : ByteArray) : pre36 ((⟨#[36]⟩ : ByteArray) ++ s) = true := by
  unfold pre36
  rw [ByteArray.data_append]
  simp [Lib.hasPrefix]
theorem dollar_idx (s : ByteArray) (hs : s.size ≤ 140737488351232) : ∀ w, (Instr.index 9 (.string ((⟨#[36]⟩ : ByteArray) ++ s)) (.int .i64 0)).run Tryz.prog w = .ok (.int .u8 36) w := by
  intro w
  have hz : 0 < (⟨#[36]⟩ ++ s : ByteArray).size := by rw [ByteArray.size_append]; show 0 < 1 + s.size; omega
  have hg : (⟨#[36]⟩ ++ s : ByteArray)[0] = 36 := by
    rw [ByteArray.getElem_append_left (by decide)]
    rfl
  have hq : (⟨#[36]⟩ ++ s : ByteArray)[0]? = some 36 := by rw [getElem?_pos _ 0 hz, hg]
  simp [Instr.index, go_sem, hq]

set_option maxRecDepth 100000 in
set_option maxHeartbeats 8000000 in
theorem reads_law_calls (A0 : Option Addr) (n0 c0 : Nat) (s : ByteArray) (own : Bool) (w : World) (b0 : Bs w (fun k => k < w.heap.size) A0 n0 c0) (hs : s.size ≤ 140737488351232) (G : JoG w) :
    Calls Tryz.prog 5 #[.slice A0 n0 c0, .string s, .bool own] w fun e w' => e = .returned (.bool true) ∧ Below w.heap.size w w' := by
  obtain ⟨N, hN⟩ : ∃ N : Nat, min (n0 : Int) 80 = (N : Int) := ⟨min n0 80, by omega⟩
  have hNl : N ≤ n0 := by omega
  have hrun0 := cutTo A0 n0 c0 N b0.1 b0.2.1 b0.2.2.1 hNl
  have B0 := Ap.of (b0.take hNl)
  have hn0 := b0.1
  have hc0 := b0.2.1
  have GG := Ap.of G
  have HSS := Ap.of hs
  have esz : ¬ 9223372036854775807 < 1 + s.size := by omega
  clear G b0 hs
  cases own
  · go_enter Tryz.func5, Tryz.ntmps5
    go_wp2_with fail
    refine (fawake_calls w GG.out.aw).mono ?_
    rintro e w1 ⟨rfl, hb⟩
    have HB1 := Ap.of hb
    have G1 := Ap.of (GG.out.below hb)
    clear hb
    go_wp2_with fail
    refine (doc3_calls A0 N c0 w1 _ (fun k hk => Nat.lt_of_lt_of_le hk HB1.out.size) G1.out.te (B0.out.below HB1.out)).mono ?_
    rintro e w2 ⟨v, la, ln, lc, fa, fn, fc, A5, n5, c5, rfl, hv, hdv, hb⟩
    have hb2 := bel_step HB1.out (bel_step hb (bel_alloc w2 (.cells #[.int .i64 v.kind, .int .i64 v.int, .string v.text, .slice la ln lc, .slice fa fn fc] 28)))
    have HV := Ap.of ((KV 11).mono (ok' := fun _ => True) (fun _ _ => trivial) (Knd.below hv (bel_alloc w2 (.cells #[.int .i64 v.kind, .int .i64 v.int, .string v.text, .slice la ln lc, .slice fa fn fc] 28))))
    have HVL := Ap.of (Knd.below hv (bel_alloc w2 (.cells #[.int .i64 v.kind, .int .i64 v.int, .string v.text, .slice la ln lc, .slice fa fn fc] 28)))
    have HDV := Ap.of hdv
    have G2 := Ap.of (GG.out.below hb2)
    have HB2 := Ap.of hb2
    have BV := Ap.of (blk_new (w := w2) (k := w2.heap.size) (o := .cells #[.int .i64 v.kind, .int .i64 v.int, .string v.text, .slice la ln lc, .slice fa fn fc] 28) rfl)
    have HLW := Ap.of (show w.heap.size ≤ w2.heap.size from Nat.le_trans HB1.out.size hb.size)
    clear hv hdv hb hb2 hrun0
    go_upto_region 4 with fail
    generalize w2.alloc (.cells #[.int .i64 v.kind, .int .i64 v.int, .string v.text, .slice la ln lc, .slice fa fn fc] 28) = U2 at *
    generalize w2.heap.size = g7 at *
    have c7 := blk_cells BV.out
    have f7 := blk_free BV.out
    have l7 := blk_lt BV.out
    have hn : (s.toList = [97, 110, 100] ∧ (s.toList == [97, 110, 100]) = true) ∨ (¬ s.toList = [97, 110, 100] ∧ (s.toList == [97, 110, 100]) = false ∧ s.toList = [111, 114] ∧ (s.toList == [111, 114]) = true) ∨ (¬ s.toList = [97, 110, 100] ∧ (s.toList == [97, 110, 100]) = false ∧ ¬ s.toList = [111, 114] ∧ (s.toList == [111, 114]) = false) := by
      by_cases h1 : s.toList = [97, 110, 100]
      · exact .inl ⟨h1, by simpa using h1⟩
      · by_cases h2 : s.toList = [111, 114]
        · exact .inr (.inl ⟨h1, by simpa using h1, h2, by simpa using h2⟩)
        · exact .inr (.inr ⟨h1, by simpa using h1, h2, by simpa using h2⟩)
    have hs5 := only5 U2 g7 (.int .i64 5) (.int .i64 0) (.string ⟨#[]⟩) (.slice none 0 0) (.slice (some ⟨U2.heap.size, 0, none⟩) 1 1)
    have HBX := Ap.of (bel_stepB (bel_only HB2.out HB2.out.size hs5 (fun j he => by have := HLW.out; omega)) (Nat.le_trans HB2.out.size hs5.size) (bel_alloc _ (.cells #[.string ((⟨#[36]⟩ : ByteArray) ++ s), .int .i64 v.kind, .int .i64 v.int, .string v.text, .slice la ln lc, .slice fa fn fc] 37)))
    rcases hn with ⟨n1, n2⟩ | ⟨n1, n2, n3, n4⟩ | ⟨n1, n2, n3, n4⟩
    · clear hs5
      go_wp2_with fail
      go_ret
      exact ⟨rfl, HBX.out⟩
    · clear hs5
      go_wp2_with fail
      go_ret
      exact ⟨rfl, HBX.out⟩
    have HVX := Ap.of ((KV 11).mono (ok' := fun _ => True) (fun _ _ => trivial) (Knd.below (Knd.only HVL.out hs5 (fun j hj he => by omega)) (bel_alloc _ (.cells #[.string ((⟨#[36]⟩ : ByteArray) ++ s), .int .i64 v.kind, .int .i64 v.int, .string v.text, .slice la ln lc, .slice fa fn fc] 37))))
    have BX := Ap.of (blk_old (o' := (.cells #[.string ((⟨#[36]⟩ : ByteArray) ++ s), .int .i64 v.kind, .int .i64 v.int, .string v.text, .slice la ln lc, .slice fa fn fc] 37)) (blk_set5 BV.out (.int .i64 5) (.int .i64 0) (.string ⟨#[]⟩) (.slice none 0 0) (.slice (some ⟨U2.heap.size, 0, none⟩) 1 1)))
    have BA := Ap.of (blk_new (w := (((((U2.setCell ⟨g7, 0, none⟩ (.int .i64 5)).setCell ⟨g7, 1, none⟩ (.int .i64 0)).setCell ⟨g7, 2, none⟩ (.string ⟨#[]⟩)).setCell ⟨g7, 3, none⟩ (.slice none 0 0)).setCell ⟨g7, 4, none⟩ (.slice (some ⟨U2.heap.size, 0, none⟩) 1 1))) (k := U2.heap.size) (o := (.cells #[.string ((⟨#[36]⟩ : ByteArray) ++ s), .int .i64 v.kind, .int .i64 v.int, .string v.text, .slice la ln lc, .slice fa fn fc] 37)) (by simp))
    have GX := Ap.of (GG.out.below HBX.out)
    clear hs5
    go_upto_region 8 with fail
    generalize (((((U2.setCell ⟨g7, 0, none⟩ (.int .i64 5)).setCell ⟨g7, 1, none⟩ (.int .i64 0)).setCell ⟨g7, 2, none⟩ (.string ⟨#[]⟩)).setCell ⟨g7, 3, none⟩ (.slice none 0 0)).setCell ⟨g7, 4, none⟩ (.slice (some ⟨U2.heap.size, 0, none⟩) 1 1)).alloc (.cells #[.string ((⟨#[36]⟩ : ByteArray) ++ s), .int .i64 v.kind, .int .i64 v.int, .string v.text, .slice la ln lc, .slice fa fn fc] 37) = WX at *
    generalize U2.heap.size = gf at *
    have hnl : (⟨#[36]⟩ ++ s : ByteArray).size ≤ maxLen := by rw [ByteArray.size_append]; show 1 + s.size ≤ maxLen; have := HSS.out; unfold maxLen; omega
    have hR := one_obj (d := 10) (ok := fun _ => True) BA.out trivial hnl HVX.out
    have HR := Ap.of (show (KV 12).R WX (fun _ => True) (dollarV ((⟨#[36]⟩ : ByteArray) ++ s) v) [.int .i64 5, .int .i64 0, .string ⟨#[]⟩, .slice none 0 0, .slice (some ⟨gf, 0, none⟩) 1 1] from hR)
    have HPX := Ap.of (show Calls Tryz.prog 28 #[.agg #[.int .i64 5, .int .i64 0, .string ⟨#[]⟩, .slice none 0 0, .slice (some ⟨gf, 0, none⟩) 1 1]] WX (ResP 11 13 WX (fun k => k < WX.heap.size) (parseD 12 (dollarV ((⟨#[36]⟩ : ByteArray) ++ s) v))) from
      filter_calls 11 12 12 (dollarV ((⟨#[36]⟩ : ByteArray) ++ s) v) none 0 0 (some ⟨gf, 0, none⟩) 1 1 (fun k => k < WX.heap.size) WX (by decide) (by decide) (fun k hk => hk) (dollar_nok (dollar_pre s) (nok_doc 3 v HDV.out)) GX.out.aw.fil (R_lt HR.out))
    have hd0 := dollar_first s
    have HWX := Ap.of (show ∀ W, Below WX.heap.size WX W → Calls Tryz.prog 29 #[.agg #[.int .i64 5, .int .i64 0, .string ⟨#[]⟩, .slice none 0 0, .slice (some ⟨gf, 0, none⟩) 1 1]] W (WrP (parseD 12 (dollarV ((⟨#[36]⟩ : ByteArray) ++ s) v)) W) from fun W hW =>
      wrong_any 10 (dollarV ((⟨#[36]⟩ : ByteArray) ++ s) v) none 0 0 (some ⟨gf, 0, none⟩) 1 1 (fun _ => True) W (fieldD 12) rfl (Knd.below HR.out hW) (fun nm y la2 ln2 lc2 fa2 fn2 fc2 W2 _ hm _ => by
        obtain ⟨rfl, rfl⟩ : nm = (⟨#[36]⟩ : ByteArray) ++ s ∧ y = v := by simpa [dollarV, Val.fields] using hm
        rw [dollar_field 11 _ _ (fun e => n1 (by have e2 := hd0; rw [e, Lib.toList_data] at e2; have e3 : ([36, 97, 110, 100] : List UInt8) = 36 :: s.toList := e2; injection e3 with _ e3; exact e3.symm)) (fun e => n3 (by have e2 := hd0; rw [e, Lib.toList_data] at e2; have e3 : ([36, 111, 114] : List UInt8) = 36 :: s.toList := e2; injection e3 with _ e3; exact e3.symm)) (dollar_pre s)]
        exact one_dollar _ _ la2 ln2 lc2 fa2 fn2 fc2 W2 (by rw [hd0]; simpa using n1) (by rw [hd0]; simpa using n3) (by rw [hd0]; rfl) (dollar_idx s HSS.out)))
    have HLEN := Ap.of (show ∀ f, parseD 12 (dollarV ((⟨#[36]⟩ : ByteArray) ++ s) v) = .ok f → f.op = 0 ∧ f.subs.length = 1 from fun f hf => parse_len hf)
    have c7 := blk_cells BX.out
    have l7 := blk_lt BX.out
    clear hnl hR HR hd0 HVX HVL HV HDV BV G2 BA f7 HB2
    go_wp2_with fail
    refine HPX.out.mono ?_
    rintro e w4 ⟨f, pa, pb, pc, pd, pe, pf, pg, ph, pi, er1, rfl, hR, hb, hd⟩
    have hb4 := bel_step hb (bel_alloc w4 (.cells #[.int .i64 f.op, .string f.path, .int .i64 f.val.kind, .int .i64 f.val.int, .string f.val.text, .slice pa pb pc, .slice pd pe pf, .slice pg ph pi] 42))
    have BF := Ap.of (blk_new (w := w4) (k := w4.heap.size) (o := .cells #[.int .i64 f.op, .string f.path, .int .i64 f.val.kind, .int .i64 f.val.int, .string f.val.text, .slice pa pb pc, .slice pd pe pf, .slice pg ph pi] 42) rfl)
    have hsub := (KF_parts hR).2.2.2.length
    have b7 := blk_bel BX.out hb4
    have B7 := Ap.of b7
    have d7 := blk_cells (blk_bel BX.out hb)
    have m7 := blk_lt (blk_bel BX.out hb)
    have G4 := Ap.of (GX.out.below hb4)
    have HB4 := Ap.of (bel_step HBX.out hb4)
    have HB4X := Ap.of hb4
    have HB4W := Ap.of hb
    clear hR hb hb4 b7 c7 l7 HPX
    rcases hd with ⟨hf, rfl⟩ | ⟨c, m, g, hc, hz, rfl, hE⟩
    · obtain ⟨hop, hln⟩ := HLEN.out f hf
      obtain rfl : ph = 1 := by omega
      have hop' : (f.op == 0) = true := by simpa using hop
      have HFP := Ap.of hf
      have HWC := Ap.of (HWX.out _ HB4X.out)
      clear hf hop hln hsub
      go_wp2_with fail
      refine HWC.out.mono ?_
      rintro e w5 ⟨r, rfl, hd2, hb5⟩
      rcases hd2 with ⟨rfl, _⟩ | ⟨_, he⟩
      · have b9 := blk_bel BF.out hb5
        have c9 := blk_cells b9
        have l9 := blk_lt b9
        have e7 := blk_cells (blk_bel B7.out hb5)
        have k7 := blk_lt (blk_bel B7.out hb5)
        have HB5 := Ap.of (bel_step HB4.out hb5)
        clear hb5 b9 d7 m7
        go_wp2_with fail
        go_ret
        exact ⟨rfl, HB5.out⟩
      · rw [HFP.out] at he
        cases he
    · have hop : f.op = 0 := by rw [hz]; rfl
      have hop' : (f.op == 0) = true := by simpa using hop
      obtain rfl : ph = 0 := by rw [hz] at hsub; exact hsub.symm
      have HCP := Ap.of hc
      have HE := Ap.of hE
      have HWC := Ap.of (HWX.out _ HB4X.out)
      clear hc hz hE hop hsub
      go_wp2_with fail
      refine HWC.out.mono ?_
      rintro e w5 ⟨r, rfl, hd2, hb5⟩
      rcases hd2 with ⟨_, _, ho⟩ | ⟨hr0, he⟩
      · rw [HCP.out] at ho
        cases ho
      · rw [HCP.out] at he
        injection he with he
        subst he
        have tc : (c == 0) = false := by simpa using hr0
        have tc' : ¬ c = 0 := hr0
        have b9 := blk_bel BF.out hb5
        have BF5 := Ap.of b9
        have HB5 := Ap.of (bel_step HB4.out hb5)
        have HCO := Ap.of (code_calls m c _ w5 ((HE.out.below (bel_alloc w4 (.cells #[.int .i64 f.op, .string f.path, .int .i64 f.val.kind, .int .i64 f.val.int, .string f.val.text, .slice pa pb pc, .slice pd pe pf, .slice pg 0 pi] 42))).below hb5) (G4.out.below hb5).aw.err.et)
        clear hb5 b9 d7 m7
        go_wp2_with fail
        refine HCO.out.mono ?_
        rintro e w6 ⟨rfl, hb6⟩
        have b9 := blk_bel BF5.out hb6
        have c9 := blk_cells b9
        have l9 := blk_lt b9
        have HB6 := Ap.of (bel_step HB5.out hb6)
        clear hb6 b9
        go_wp2_with fail
        go_ret
        exact ⟨rfl, HB6.out⟩
  · go_enter Tryz.func5, Tryz.ntmps5
    go_wp2_with fail
    refine (fawake_calls w GG.out.aw).mono ?_
    rintro e w1 ⟨rfl, hb⟩
    have HB1 := Ap.of hb
    have G1 := Ap.of (GG.out.below hb)
    clear hb
    go_wp2_with fail
    refine (doc3_calls A0 N c0 w1 _ (fun k hk => Nat.lt_of_lt_of_le hk HB1.out.size) G1.out.te (B0.out.below HB1.out)).mono ?_
    rintro e w2 ⟨v, la, ln, lc, fa, fn, fc, A5, n5, c5, rfl, hv, hdv, hb⟩
    have hb2 := bel_step HB1.out (bel_step hb (bel_alloc w2 (.cells #[.int .i64 v.kind, .int .i64 v.int, .string v.text, .slice la ln lc, .slice fa fn fc] 28)))
    have HV := Ap.of ((KV 11).mono (ok' := fun _ => True) (fun _ _ => trivial) (Knd.below hv (bel_alloc w2 (.cells #[.int .i64 v.kind, .int .i64 v.int, .string v.text, .slice la ln lc, .slice fa fn fc] 28))))
    have HVL := Ap.of (Knd.below hv (bel_alloc w2 (.cells #[.int .i64 v.kind, .int .i64 v.int, .string v.text, .slice la ln lc, .slice fa fn fc] 28)))
    have HDV := Ap.of hdv
    have G2 := Ap.of (GG.out.below hb2)
    have HB2 := Ap.of hb2
    have BV := Ap.of (blk_new (w := w2) (k := w2.heap.size) (o := .cells #[.int .i64 v.kind, .int .i64 v.int, .string v.text, .slice la ln lc, .slice fa fn fc] 28) rfl)
    have HLW := Ap.of (show w.heap.size ≤ w2.heap.size from Nat.le_trans HB1.out.size hb.size)
    clear hv hdv hb hb2 hrun0
    go_upto_region 4 with fail
    generalize w2.alloc (.cells #[.int .i64 v.kind, .int .i64 v.int, .string v.text, .slice la ln lc, .slice fa fn fc] 28) = U2 at *
    generalize w2.heap.size = g7 at *
    have c7 := blk_cells BV.out
    have f7 := blk_free BV.out
    have l7 := blk_lt BV.out
    have HPX := Ap.of (filter_calls 10 11 11 v la ln lc fa fn fc (fun k => k < U2.heap.size) U2 (by decide) (by decide) (fun k hk => hk) (nok_doc 3 v HDV.out) G2.out.aw.fil (R_lt HV.out))
    have HWX := Ap.of (fun W (hW : Below U2.heap.size U2 W) => wrong_doc 3 11 v la ln lc fa fn fc (fun _ => True) W (by decide) HDV.out (G2.out.below hW).te (Knd.below HV.out hW))
    have hfl := (KV_parts HV.out).2.2.2.2.length
    have HLEN := Ap.of (show ∀ f, parseD 11 v = .ok f → f.op = 0 ∧ f.subs.length = fn from fun f hf => ⟨(parse_len hf).1, (parse_len hf).2.trans hfl⟩)
    have BX := BV
    have GX := G2
    have HBX := HB2
    clear hfl HV HDV BV G2 f7
    go_wp2_with fail
    refine HPX.out.mono ?_
    rintro e w4 ⟨f, pa, pb, pc, pd, pe, pf, pg, ph, pi, er1, rfl, hR, hb, hd⟩
    have hb4 := bel_step hb (bel_alloc w4 (.cells #[.int .i64 f.op, .string f.path, .int .i64 f.val.kind, .int .i64 f.val.int, .string f.val.text, .slice pa pb pc, .slice pd pe pf, .slice pg ph pi] 42))
    have BF := Ap.of (blk_new (w := w4) (k := w4.heap.size) (o := .cells #[.int .i64 f.op, .string f.path, .int .i64 f.val.kind, .int .i64 f.val.int, .string f.val.text, .slice pa pb pc, .slice pd pe pf, .slice pg ph pi] 42) rfl)
    have hsub := (KF_parts hR).2.2.2.length
    have b7 := blk_bel BX.out hb4
    have B7 := Ap.of b7
    have d7 := blk_cells (blk_bel BX.out hb)
    have m7 := blk_lt (blk_bel BX.out hb)
    have G4 := Ap.of (GX.out.below hb4)
    have HB4 := Ap.of (bel_step HBX.out hb4)
    have HB4X := Ap.of hb4
    have HB4W := Ap.of hb
    clear hR hb hb4 b7 c7 l7 HPX
    rcases hd with ⟨hf, rfl⟩ | ⟨c, m, g, hc, hz, rfl, hE⟩
    · obtain ⟨hop, hln⟩ := HLEN.out f hf
      obtain rfl : ph = fn := by omega
      have hop' : (f.op == 0) = true := by simpa using hop
      have HFP := Ap.of hf
      have HWC := Ap.of (HWX.out _ HB4X.out)
      clear hf hop hln hsub
      go_wp2_with fail
      refine HWC.out.mono ?_
      rintro e w5 ⟨r, rfl, hd2, hb5⟩
      rcases hd2 with ⟨rfl, _⟩ | ⟨_, he⟩
      · have b9 := blk_bel BF.out hb5
        have c9 := blk_cells b9
        have l9 := blk_lt b9
        have e7 := blk_cells (blk_bel B7.out hb5)
        have k7 := blk_lt (blk_bel B7.out hb5)
        have HB5 := Ap.of (bel_step HB4.out hb5)
        clear hb5 b9 d7 m7
        go_wp2_with fail
        go_ret
        exact ⟨rfl, HB5.out⟩
      · rw [HFP.out] at he
        cases he
    · have hop : f.op = 0 := by rw [hz]; rfl
      have hop' : (f.op == 0) = true := by simpa using hop
      obtain rfl : ph = 0 := by rw [hz] at hsub; exact hsub.symm
      have HCP := Ap.of hc
      have HE := Ap.of hE
      have HWC := Ap.of (HWX.out _ HB4X.out)
      clear hc hz hE hop hsub
      go_wp2_with fail
      refine HWC.out.mono ?_
      rintro e w5 ⟨r, rfl, hd2, hb5⟩
      rcases hd2 with ⟨_, _, ho⟩ | ⟨hr0, he⟩
      · rw [HCP.out] at ho
        cases ho
      · rw [HCP.out] at he
        injection he with he
        subst he
        have tc : (c == 0) = false := by simpa using hr0
        have tc' : ¬ c = 0 := hr0
        have b9 := blk_bel BF.out hb5
        have BF5 := Ap.of b9
        have HB5 := Ap.of (bel_step HB4.out hb5)
        have HCO := Ap.of (code_calls m c _ w5 ((HE.out.below (bel_alloc w4 (.cells #[.int .i64 f.op, .string f.path, .int .i64 f.val.kind, .int .i64 f.val.int, .string f.val.text, .slice pa pb pc, .slice pd pe pf, .slice pg 0 pi] 42))).below hb5) (G4.out.below hb5).aw.err.et)
        clear hb5 b9 d7 m7
        go_wp2_with fail
        refine HCO.out.mono ?_
        rintro e w6 ⟨rfl, hb6⟩
        have b9 := blk_bel BF5.out hb6
        have c9 := blk_cells b9
        have l9 := blk_lt b9
        have HB6 := Ap.of (bel_step HB5.out hb6)
        clear hb6 b9
        go_wp2_with fail
        go_ret
        exact ⟨rfl, HB6.out⟩
end Go.Proofs.YtlomieopppndeaaGreatDoor
