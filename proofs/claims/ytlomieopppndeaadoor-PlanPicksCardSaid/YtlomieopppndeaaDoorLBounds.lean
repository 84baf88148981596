/- roundelaylaw17.Bounds: the range by definition. -/
import Derived.Test.YtlomieopppndeaaDoorBoundsWalk
import Derived.Test.YtlomieopppndeaaDoorLKey3
import Derived.Test.YtlomieopppndeaaDoorPlanIn
import Derived.Deep.DeepCutAuto
import Derived.Deep.CutBlock
namespace Go.Proofs.YtlomieopppndeaaDoor
open Go.RowKit

theorem less_nil : ∀ a : List UInt8, Op.bytesLess a [] = false := by
  intro a
  cases a <;> rfl
set_option maxRecDepth 100000 in
set_option maxHeartbeats 4000000 in
theorem lbounds_calls (d e : Nat) (f : Flt) (la : Option Addr) (ln lc : Nat) (fa : Option Addr) (fn fc : Nat) (sa : Option Addr) (sn sc : Nat) (p : ByteArray) (w : World) (he : 5 ≤ e) (h13 : d ≤ 14) (hS : SubsN 7 d f) (hc : ∀ c ∈ condsD d f, CondV c) (G : ParG w) (hR : (KF 11 d).R w (fun _ => True) f [.int .i64 f.op, .string f.path, .int .i64 f.val.kind, .int .i64 f.val.int, .string f.val.text, .slice la ln lc, .slice fa fn fc, .slice sa sn sc]) :
    Calls Tryd.prog 12 #[.agg #[.int .i64 f.op, .string f.path, .int .i64 f.val.kind, .int .i64 f.val.int, .string f.val.text, .slice la ln lc, .slice fa fn fc, .slice sa sn sc], .string p] w (BndP (boundsD e d f p) w) := by
  have hb1 := bel_alloc w (.cells #[.int .i64 f.op, .string f.path, .int .i64 f.val.kind, .int .i64 f.val.int, .string f.val.text, .slice la ln lc, .slice fa fn fc, .slice sa sn sc] 32)
  have hb2 := bel_step hb1 (bel_alloc _ (.cells #[.string ⟨#[]⟩, .string ⟨#[]⟩, .bool false] 37))
  have hb3 := bel_step hb2 (bel_alloc _ (.cells #[.string ⟨#[]⟩, .string ⟨#[]⟩, .bool false] 37))
  have HB3 := Ap.of hb3
  have HR3 := Ap.of (blk_new (w := (w.alloc (.cells #[.int .i64 f.op, .string f.path, .int .i64 f.val.kind, .int .i64 f.val.int, .string f.val.text, .slice la ln lc, .slice fa fn fc, .slice sa sn sc] 32)).alloc (.cells #[.string ⟨#[]⟩, .string ⟨#[]⟩, .bool false] 37)) (k := w.heap.size + 1 + 1) (o := .cells #[.string ⟨#[]⟩, .string ⟨#[]⟩, .bool false] 37) (by simp))
  have HT3 := Ap.of (blk_old (o' := .cells #[.string ⟨#[]⟩, .string ⟨#[]⟩, .bool false] 37) (blk_new (w := w.alloc (.cells #[.int .i64 f.op, .string f.path, .int .i64 f.val.kind, .int .i64 f.val.int, .string f.val.text, .slice la ln lc, .slice fa fn fc, .slice sa sn sc] 32)) (k := w.heap.size + 1) (o := .cells #[.string ⟨#[]⟩, .string ⟨#[]⟩, .bool false] 37) (by simp)))
  have HSZ := Ap.of (show (((w.alloc (.cells #[.int .i64 f.op, .string f.path, .int .i64 f.val.kind, .int .i64 f.val.int, .string f.val.text, .slice la ln lc, .slice fa fn fc, .slice sa sn sc] 32)).alloc (.cells #[.string ⟨#[]⟩, .string ⟨#[]⟩, .bool false] 37)).alloc (.cells #[.string ⟨#[]⟩, .string ⟨#[]⟩, .bool false] 37)).heap.size = w.heap.size + 3 by simp)
  have HCL := Ap.of (flat_calls 10 d 14 f la ln lc fa fn fc sa sn sc (fun k => k < w.heap.size) _ h13 h13 (fun k hk => Nat.lt_of_lt_of_le hk hb3.size) hS (Knd.below ((KF 11 d).mono (fun k hk => hk.2) ((KF 11 d).bound hR)) hb3))
  obtain ⟨b, hb⟩ : ∃ b, b = boundsD e d f p := ⟨_, rfl⟩
  rw [← hb]
  have HB := Ap.of (show b = foldB e p (condsD d f) from hb)
  have HCV := Ap.of hc
  have GG := Ap.of G
  have HE5 := Ap.of he
  clear hb1 hb2 hb3 hS hc G hR hb he h13
  unfold BndP
  generalize condsD d f = cs at *
  generalize f.path = fp at *
  generalize f.val.kind = fk at *
  generalize f.val.int = fi at *
  generalize f.val.text = ft at *
  generalize f.op = fo at *
  go_enter Tryd.func12, Tryd.ntmps12
  go_wp2_with fail
  refine HCL.out.mono ?_
  rintro en w4 ⟨A, n, c, rfl, hrow, hb⟩
  have HROW := Ap.of hrow
  have HRL := Ap.of hrow.length
  have hcap := hrow.cap
  have HR4 := Ap.of (blk_bel HR3.out hb)
  have HT4 := Ap.of (blk_bel HT3.out hb)
  have HB4 := Ap.of (bel_step HB3.out hb)
  have HS4 := Ap.of (show w.heap.size + 3 ≤ w4.heap.size by have := HSZ.out; have := hb.size; omega)
  clear hrow hb HCL HR3 HT3 HB3
  go_wp2_with fail
  go_loopw [8, 9, 19] (fun v8 v9 v18 wr => ∃ (k : Nat) (r : Bnd), k ≤ n ∧ v18 = .int .i64 k ∧ v8 = .bool r.2.2.1 ∧ v9 = .bool r.2.2.2 ∧ Ap (r = foldB e p (cs.take k)) ∧ Ap (wr.heap[w.heap.size + 1 + 1]? = some (.cells #[.string r.1, .string r.2.1, .bool false] 37 (0, 0))) ∧ Ap (wr.heap[w.heap.size + 1]? = some (.cells #[.string ⟨#[]⟩, .string ⟨#[]⟩, .bool false] 37 (0, 0))) ∧ Ap (Only (fun j => j = w.heap.size + 1 + 1) w4 wr) ∧ Ap (Below w.heap.size w wr)) (fun _ _ v18 _ => n - (intOf v18).toNat)
  case atStart => exact ⟨0, bnd0, Nat.zero_le _, rfl, rfl, rfl, Ap.of rfl, HR4, HT4, Ap.of (Only.refl _ _), HB4⟩
  case round =>
    obtain ⟨k, ⟨r1, r2, r3, r4⟩, hk, rfl, rfl, rfl, HF, HR, HT, HO, BL⟩ := hrel
    by_cases hlt : k < n
    · obtain ⟨g2, off, s, la2, ln2, lc2, fa2, fn2, fc2, sa2, sn2, sc2, rfl, hx, hrs, c0, c1, c2, c3, c4, c5, c6, c7⟩ := flt_cells (HROW.out.only HO.out (fun j hj he => by have := HSZ.out; have := HS4.out; rcases hj with h | h <;> omega)) hlt
      have hba := bel_alloc wr (.cells #[.int .i64 s.op, .string s.path, .int .i64 s.val.kind, .int .i64 s.val.int, .string s.val.text, .slice la2 ln2 lc2, .slice fa2 fn2 fc2, .slice sa2 sn2 sc2] 32)
      have hcv := HCV.out s (List.mem_of_getElem? hx)
      have HNX := Ap.of (foldB_next e p hx)
      have HBC := Ap.of (lput_calls 5 11 e s.val la2 ln2 lc2 fa2 fn2 fc2 (wr.alloc (.cells #[.int .i64 s.op, .string s.path, .int .i64 s.val.kind, .int .i64 s.val.int, .string s.val.text, .slice la2 ln2 lc2, .slice fa2 fn2 fc2, .slice sa2 sn2 sc2] 32)) (by decide) HE5.out (Nat.le_refl _) hcv.1 (Knd.below (KF_parts ((KF 11 15).mono (ok' := fun _ => True) (fun _ _ => trivial) hrs)).2.2.1 hba))
      have HKS := Ap.of (keyB_size hcv.1 e)
      have HKN := Ap.of (key_ne (KeyOk_le HE5.out (KeyOk.of_good 5 s.val hcv.1)))
      have HBF := Ap.of (show boundF e s = if s.op = 2 then (keyB e s.val, endB (keyB e s.val), true) else if s.op = 4 then (endB (keyB e s.val), ⟨#[]⟩, true) else if s.op = 5 then (keyB e s.val, ⟨#[]⟩, true) else if s.op = 6 then (⟨#[]⟩, keyB e s.val, true) else if s.op = 7 then (⟨#[]⟩, endB (keyB e s.val), true) else (⟨#[]⟩, ⟨#[]⟩, false) from rfl)
      have HON := Ap.of (show oneB e p s = if s.path = p ∧ 2 ≤ s.op then ((boundF e s).1, (boundF e s).2.1, s.op == 2, (boundF e s).2.2) else bnd0 from rfl)
      have HR1 := Ap.of (blk_bel HR.out hba)
      have HT1 := Ap.of (blk_bel HT.out hba)
      have HO1 := Ap.of (HO.out.alloc (.cells #[.int .i64 s.op, .string s.path, .int .i64 s.val.kind, .int .i64 s.val.int, .string s.val.text, .slice la2 ln2 lc2, .slice fa2 fn2 fc2, .slice sa2 sn2 sc2] 32))
      have HB1 := Ap.of (bel_stepB BL.out BL.out.size hba)
      have BC := Ap.of (blk_new (w := wr) (k := wr.heap.size) (o := .cells #[.int .i64 s.op, .string s.path, .int .i64 s.val.kind, .int .i64 s.val.int, .string s.val.text, .slice la2 ln2 lc2, .slice fa2 fn2 fc2, .slice sa2 sn2 sc2] 32) rfl)
      have HLT := Ap.of hlt
      have hlt' : (k : Int) < (n : Int) := by omega
      have lc0 := World.block_lt_of_cell? _ _ c0
      have hop1 : 1 ≤ s.op := hcv.2.1
      clear hx hrs hba hcv
      generalize oneB e p s = o1 at *
      unfold PutP at HBC
      generalize keyB e s.val = kk at *
      generalize boundF e s = x at *
      obtain ⟨x1, x2, x3⟩ := x
      generalize s.path = sp at *
      generalize s.val.kind = sk at *
      generalize s.val.int = si at *
      generalize s.val.text = st at *
      generalize s.op = so at *
      by_cases hp : sp = p ∧ 2 ≤ so
      · have HO2 := Ap.of (show o1 = (x1, x2, so == 2, x3) by rw [HON.out, if_pos hp])
        obtain ⟨rfl, ho2⟩ := hp
        have q1 : (sp.toList == sp.toList) = true := by simp
        have q0 : (so == 1) = false := by simp; omega
        have HSO2 := Ap.of ho2
        have HX3 := Ap.of (show (x3 = false ∧ x1 = ⟨#[]⟩ ∧ x2 = ⟨#[]⟩) ∨ (x3 = true ∧ (x1 ≠ ⟨#[]⟩ ∨ x2 ≠ ⟨#[]⟩)) by
          have h := HBF.out
          have hk := HKN.out
          have hk2 : endB kk ≠ ⟨#[]⟩ := fun e => by have := congrArg ByteArray.size e; unfold endB at this; rw [ByteArray.size_append] at this; have h1 : (⟨#[0]⟩ : ByteArray).size = 1 := rfl; have h2 : (⟨#[]⟩ : ByteArray).size = 0 := rfl; omega
          split at h
          · injection h with h1 h2; injection h2 with h2 h3; subst h1 h2 h3; exact .inr ⟨rfl, .inl hk⟩
          · split at h
            · injection h with h1 h2; injection h2 with h2 h3; subst h1 h2 h3; exact .inr ⟨rfl, .inl hk2⟩
            · split at h
              · injection h with h1 h2; injection h2 with h2 h3; subst h1 h2 h3; exact .inr ⟨rfl, .inl hk⟩
              · split at h
                · injection h with h1 h2; injection h2 with h2 h3; subst h1 h2 h3; exact .inr ⟨rfl, .inr hk⟩
                · split at h
                  · injection h with h1 h2; injection h2 with h2 h3; subst h1 h2 h3; exact .inr ⟨rfl, .inr hk2⟩
                  · injection h with h1 h2; injection h2 with h2 h3; subst h1 h2 h3; exact .inl ⟨rfl, rfl, rfl⟩)
        clear HON hop1
        go_wp2_with fail
        refine HBC.out.mono ?_
        rintro en w5 ⟨rfl, hb⟩
        have HR5 := Ap.of (blk_bel HR1.out hb)
        have HT5 := Ap.of (blk_bel HT1.out hb)
        have HO5 := Ap.of (HO1.out.bel hb)
        have HB5 := Ap.of (bel_stepB HB1.out HB1.out.size hb)
        have bc5 := blk_bel BC.out hb
        have HBX5 := Ap.of bc5
        have cc := blk_cells bc5
        have lcc := blk_lt bc5
        have cr := blk_cells HR5.out
        have fr := blk_free HR5.out
        have lr := blk_lt HR5.out
        have hne : ¬ wr.heap.size = w.heap.size + 1 + 1 := by have h1 := HS4.out; have h2 := HO.out.size; omega
        have HBB := Ap.of (show bothB (r1, r2, r3, r4) (x1, x2, so == 2, x3) = (maxA r1 x1, toA r2 x2, r3 || (so == 2), r4 || x3) from rfl)
        clear hb bc5 HBC HR1 HT1 HO1 HB1 c0 c1 c2 c3 c4 c5 c6 c7 lc0 BC
        go_upto_block 2 with fail
        go_cut [13, 14] (fun v13 v14 wx => v13 = .string x1 ∧ v14 = .string x2 ∧ Ap (wx = w5))
        case first =>
          have z1 : ¬ 9223372036854775807 < kk.size + 1 := by have := HKS.out; omega
          have ho : so = 2 ∨ so = 4 ∨ so = 5 ∨ so = 6 ∨ so = 7 ∨ (so ≠ 2 ∧ so ≠ 4 ∧ so ≠ 5 ∧ so ≠ 6 ∧ so ≠ 7) := by omega
          have HBG := HBF
          clear HBF HX3 HNX HBB HO2 q0 ho2 hne
          rcases ho with rfl | rfl | rfl | rfl | rfl | ⟨n2, n4, n5, n6, n7⟩
          · have h := HBG.out
            rw [if_pos rfl] at h
            injection h with h1 h2
            injection h2 with h2 _
            subst h1 h2
            clear HBG
            unfold endB at *
            go_wp2_with fail
            go_meet
            exact ⟨rfl, rfl, Ap.of rfl⟩
          · have h := HBG.out
            rw [if_neg (show ¬ ((4 : Int) = 2) by decide), if_pos rfl] at h
            injection h with h1 h2
            injection h2 with h2 _
            subst h1 h2
            clear HBG
            unfold endB at *
            go_wp2_with fail
            go_meet
            exact ⟨rfl, rfl, Ap.of rfl⟩
          · have h := HBG.out
            rw [if_neg (show ¬ ((5 : Int) = 2) by decide), if_neg (show ¬ ((5 : Int) = 4) by decide), if_pos rfl] at h
            injection h with h1 h2
            injection h2 with h2 _
            subst h1 h2
            clear HBG
            unfold endB at *
            go_wp2_with fail
            go_meet
            exact ⟨rfl, rfl, Ap.of rfl⟩
          · have h := HBG.out
            rw [if_neg (show ¬ ((6 : Int) = 2) by decide), if_neg (show ¬ ((6 : Int) = 4) by decide), if_neg (show ¬ ((6 : Int) = 5) by decide), if_pos rfl] at h
            injection h with h1 h2
            injection h2 with h2 _
            subst h1 h2
            clear HBG
            unfold endB at *
            go_wp2_with fail
            go_meet
            exact ⟨rfl, rfl, Ap.of rfl⟩
          · have h := HBG.out
            rw [if_neg (show ¬ ((7 : Int) = 2) by decide), if_neg (show ¬ ((7 : Int) = 4) by decide), if_neg (show ¬ ((7 : Int) = 5) by decide), if_neg (show ¬ ((7 : Int) = 6) by decide), if_pos rfl] at h
            injection h with h1 h2
            injection h2 with h2 _
            subst h1 h2
            clear HBG
            unfold endB at *
            go_wp2_with fail
            go_meet
            exact ⟨rfl, rfl, Ap.of rfl⟩
          · have t2 : (so == 2) = false := by simpa using n2
            have t4 : (so == 4) = false := by simpa using n4
            have t5 : (so == 5) = false := by simpa using n5
            have t6 : (so == 6) = false := by simpa using n6
            have t7 : (so == 7) = false := by simpa using n7
            have h := HBG.out
            rw [if_neg n2, if_neg n4, if_neg n5, if_neg n6, if_neg n7] at h
            injection h with h1 h2
            injection h2 with h2 _
            subst h1 h2
            have t1 : (so == 1) = false := by have := HSO2.out; simp; omega
            clear n2 n4 n5 n6 n7 HBG
            go_wp2_with fail
            go_meet
            exact ⟨rfl, rfl, Ap.of rfl⟩
        case rest =>
          obtain ⟨rfl, rfl, HWX⟩ := hcut
          have hwx := HWX.out
          subst hwx
          clear HWX HBF HKS HKN q1 q0 ho2
          have hfr : (x1 = ⟨#[]⟩ ∧ maxA r1 x1 = r1 ∧ r1 = ⟨#[]⟩) ∨ (x1 = ⟨#[]⟩ ∧ maxA r1 x1 = r1 ∧ Op.bytesLess [] r1.toList = true ∧ (r1.toList == []) = false ∧ ¬ r1.toList = []) ∨
              ((x1.toList == []) = false ∧ ¬ x1.toList = [] ∧ ((maxA r1 x1 = x1 ∧ Op.bytesLess x1.toList r1.toList = false ∧ (x1.toList == r1.toList) = false ∧ ¬ x1.toList = r1.toList) ∨ (maxA r1 x1 = r1 ∧ x1 = r1) ∨ (maxA r1 x1 = r1 ∧ Op.bytesLess x1.toList r1.toList = true))) := by
            unfold maxA pickR
            by_cases h2 : x1 = ⟨#[]⟩
            · by_cases h3 : r1 = ⟨#[]⟩
              · exact .inl ⟨h2, if_neg (by rw [h2]; exact nlt_empty r1), h3⟩
              · refine .inr (.inl ⟨h2, if_neg (by rw [h2]; exact nlt_empty r1), ?_, ?_, fun h => h3 ((tl_nil r1).1 h)⟩)
                · have := less_eq ⟨#[]⟩ r1
                  rw [show (⟨#[]⟩ : ByteArray).toList = [] from (tl_nil _).2 rfl] at this
                  rw [this]
                  simpa using empty_lt h3
                · simpa using fun h => h3 ((tl_nil r1).1 h)
            · have hn : ¬ x1.toList = [] := fun h => h2 ((tl_nil x1).1 h)
              refine .inr (.inr ⟨by simpa using hn, hn, ?_⟩)
              rw [less_eq]
              rcases ltA_tri r1 x1 with h4 | h4 | h4
              · refine .inl ⟨if_pos h4, by simpa using fun h => ltA_irrefl _ (ltA_trans h4 h), ?_, fun h => ltA_irrefl r1 (by have e := tl_eq h; rw [e] at h4; exact h4)⟩
                simpa using fun h => ltA_irrefl r1 (by have e := tl_eq h; rw [e] at h4; exact h4)
              · exact .inr (.inl ⟨if_neg (by rw [h4]; exact ltA_irrefl _), h4.symm⟩)
              · exact .inr (.inr ⟨if_neg (fun h => ltA_irrefl _ (ltA_trans h4 h)), by simpa using h4⟩)
          have hto : (toA r2 x2 = r2 ∧ x2 = ⟨#[]⟩) ∨ (toA r2 x2 = x2 ∧ (x2.toList == []) = false ∧ ¬ x2.toList = [] ∧ r2 = ⟨#[]⟩) ∨
              ((x2.toList == []) = false ∧ ¬ x2.toList = [] ∧ (r2.toList == []) = false ∧ ¬ r2.toList = [] ∧ ((toA r2 x2 = x2 ∧ Op.bytesLess x2.toList r2.toList = true) ∨ (toA r2 x2 = r2 ∧ Op.bytesLess x2.toList r2.toList = false))) := by
            unfold toA pickR
            by_cases h2 : x2 = ⟨#[]⟩
            · exact .inl ⟨if_neg (fun h => h.1 h2), h2⟩
            · have hn : ¬ x2.toList = [] := fun h => h2 ((tl_nil x2).1 h)
              by_cases h3 : r2 = ⟨#[]⟩
              · exact .inr (.inl ⟨if_pos ⟨h2, .inl h3⟩, by simpa using hn, hn, h3⟩)
              · have hn3 : ¬ r2.toList = [] := fun h => h3 ((tl_nil r2).1 h)
                refine .inr (.inr ⟨by simpa using hn, hn, by simpa using hn3, hn3, ?_⟩)
                rw [less_eq]
                by_cases h4 : ltA x2 r2
                · exact .inl ⟨if_pos ⟨h2, .inr h4⟩, by simpa using h4⟩
                · exact .inr ⟨if_neg (fun h => h.2.elim h3 h4), by simpa using h4⟩
          obtain ⟨w6, rfl⟩ : ∃ w6 : World, w6 = wc := ⟨_, rfl⟩
          have HBC6 := HBX5
          clear HBX5
          clear HBB
          obtain ⟨q1, hq1⟩ : ∃ q : Bool, q = decide (ltA r1 x1) := ⟨_, rfl⟩
          have HQ1 := Ap.of hq1
          go_upto_region 18 with fail
          go_cut [68] (fun v68 wx => v68 = .bool q1 ∧ Ap (wx = w6))
          case first =>
            clear hto HX3 HNX HO2 HQ1
            have e0 : Op.bytesLess ([] : List UInt8) [] = false := rfl
            rcases hfr with ⟨a1, a2, a6⟩ | ⟨a1, a2, a3, a6, a7⟩ | ⟨a1, a4, ⟨a2, a3, a6, a7⟩ | ⟨a2, a6⟩ | ⟨a2, a3⟩⟩
            · have HQ2 := Ap.of (show q1 = false by rw [hq1, a1]; exact decide_eq_false (nlt_empty _))
              clear a2 hq1
              subst a1 a6
              go_wp2_with fail
              go_meet
              exact ⟨by rw [HQ2.out], Ap.of rfl⟩
            · have HQ2 := Ap.of (show q1 = false by rw [hq1, a1]; exact decide_eq_false (nlt_empty _))
              clear a2 hq1
              subst a1
              go_wp2_with fail
              go_meet
              exact ⟨by rw [HQ2.out], Ap.of rfl⟩
            · have HQ2 := Ap.of (show q1 = true by
                rw [hq1]
                refine decide_eq_true ?_
                rcases ltA_tri r1 x1 with h | h | h
                · exact h
                · exact (a7 (by rw [h])).elim
                · rw [less_eq] at a3; exact (by simpa using a3 : ¬ ltA x1 r1) h |>.elim)
              clear a2 hq1
              go_wp2_with fail
              go_meet
              exact ⟨by rw [HQ2.out], Ap.of rfl⟩
            · have HQ2 := Ap.of (show q1 = false by rw [hq1, a6]; exact decide_eq_false (ltA_irrefl _))
              clear a2 hq1
              subst a6
              have e1 : Op.bytesLess x1.toList x1.toList = false := by rw [less_eq]; simpa using ltA_irrefl x1
              have e2 : (x1.toList == x1.toList) = true := by simp
              go_wp2_with fail
              go_meet
              exact ⟨by rw [HQ2.out], Ap.of rfl⟩
            · have HQ2 := Ap.of (show q1 = false by rw [hq1]; exact decide_eq_false (fun h => by rw [less_eq] at a3; exact ltA_irrefl _ (ltA_trans h (by simpa using a3))))
              clear a2 hq1
              go_wp2_with fail
              go_meet
              exact ⟨by rw [HQ2.out], Ap.of rfl⟩
          case rest =>
          obtain ⟨rfl, HWX⟩ := hcut
          have hwx := HWX.out
          subst hwx
          obtain ⟨w6, rfl⟩ : ∃ w6 : World, w6 = wc := ⟨_, rfl⟩
          clear HWX hfr hq1
          have HMA := Ap.of (show maxA r1 x1 = if q1 = true then x1 else r1 by
            unfold maxA pickR
            rw [HQ1.out]
            by_cases h : ltA r1 x1
            · rw [if_pos h, if_pos (decide_eq_true h)]
            · rw [if_neg h, if_neg (by rw [decide_eq_false h]; decide)])
          clear HQ1
          go_upto_if 68 with fail
          go_cut [] (fun wx => ∃ m1 : ByteArray, Ap (m1 = maxA r1 x1) ∧ Ap (wx.heap[w.heap.size + 1 + 1]? = some (.cells #[.string m1, .string r2, .bool false] 37 (0, 0))) ∧ Ap (wx.heap[w.heap.size + 1]? = some (.cells #[.string ⟨#[]⟩, .string ⟨#[]⟩, .bool false] 37 (0, 0))) ∧ Ap (Only (fun j => j = w.heap.size + 1 + 1) w4 wx) ∧ Ap (Below w.heap.size w wx) ∧ Ap (wx.heap[wr.heap.size]? = some (.cells #[.int .i64 so, .string sp, .int .i64 sk, .int .i64 si, .string st, .slice la2 ln2 lc2, .slice fa2 fn2 fc2, .slice sa2 sn2 sc2] 32 (0, 0))))
          case first =>
            have hse6 := blk_set HR5.out 0 (.string x1)
            have HO6 := Ap.of (HO5.out.set (p := ⟨w.heap.size + 1 + 1, 0, none⟩) rfl (.string x1))
            have HB6 := Ap.of (Below.setCell (p := ⟨w.heap.size + 1 + 1, 0, none⟩) HB5.out (by show w.heap.size ≤ w.heap.size + 1 + 1; omega) (.string x1))
            have HT6 := Ap.of (blk_only HT5.out (Only.setCell _ ⟨w.heap.size + 1 + 1, 0, none⟩ (.string x1)) (by show ¬ w.heap.size + 1 = w.heap.size + 1 + 1; omega))
            have HR6 := Ap.of (show _ = some (.cells #[.string x1, .string r2, .bool false] 37 (0, 0)) from hse6.trans (by simp))
            have HBC7 := Ap.of (blk_only HBC6.out (Only.setCell _ ⟨w.heap.size + 1 + 1, 0, none⟩ (.string x1)) hne)
            clear hse6 hto HX3 HNX HO2
            cases q1 with
            | true =>
              go_wp2_with fail
              go_meet
              exact ⟨_, Ap.of (by rw [HMA.out]; rfl), HR6, HT6, HO6, HB6, HBC7⟩
            | false =>
              go_wp2_with fail
              go_meet
              exact ⟨_, Ap.of (by rw [HMA.out]; rfl), HR5, HT5, HO5, HB5, HBC6⟩
          case rest =>
          obtain ⟨m1, HM1, HR6, HT6, HO6, HB6, HBC7⟩ := hcut
          obtain ⟨w7, rfl⟩ : ∃ w7 : World, w7 = wc := ⟨_, rfl⟩
          clear HR5 HT5 HO5 HB5 HBC6 HMA cr fr lr cc lcc
          have cr := blk_cells HR6.out
          have fr := blk_free HR6.out
          have lr := blk_lt HR6.out
          have cc := blk_cells HBC7.out
          have lcc := blk_lt HBC7.out
          obtain ⟨q, hq⟩ : ∃ q : Bool, q = decide (ltT x2 r2) := ⟨_, rfl⟩
          have HQ := Ap.of hq
          go_upto_region 20 with fail
          go_cut [83] (fun v83 wx => v83 = .bool q ∧ Ap (wx = w7))
          case first =>
            clear HX3 HNX HO2 HQ
            unfold toA pickR at hto
            have hbe : (⟨#[]⟩ : ByteArray).toList = [] := (tl_nil _).2 rfl
            rcases hto with ⟨b1, b2⟩ | ⟨b1, b2, b3, b4⟩ | ⟨b2, b3, b4, b5, ⟨b1, b6⟩ | ⟨b1, b6⟩⟩
            · have hqq : q = false := by rw [hq, b2]; exact decide_eq_false (fun h => h.1 rfl)
              have HQ2 := Ap.of hqq
              clear b1 hq hqq
              subst b2
              go_wp2_with fail
              go_meet
              exact ⟨by rw [HQ2.out], Ap.of rfl⟩
            · have hqq : q = true := by rw [hq, b4]; exact decide_eq_true ⟨fun h => b3 ((tl_nil x2).2 h), .inl rfl⟩
              have HQ2 := Ap.of hqq
              clear b1 hq hqq
              subst b4
              go_wp2_with fail
              go_meet
              exact ⟨by rw [HQ2.out], Ap.of rfl⟩
            · have hqq : q = true := by rw [hq]; exact decide_eq_true ⟨fun h => b3 ((tl_nil x2).2 h), .inr (by have := b6; rw [less_eq] at this; simpa using this)⟩
              have HQ2 := Ap.of hqq
              clear b1 hq hqq
              go_wp2_with fail
              go_meet
              exact ⟨by rw [HQ2.out], Ap.of rfl⟩
            · have hqq : q = false := by rw [hq]; exact decide_eq_false (fun h => h.2.elim (fun h => b5 ((tl_nil r2).2 h)) (fun h => by have := b6; rw [less_eq] at this; simp at this; exact this h))
              have HQ2 := Ap.of hqq
              clear b1 hq hqq
              go_wp2_with fail
              go_meet
              exact ⟨by rw [HQ2.out], Ap.of rfl⟩
          case rest =>
          obtain ⟨rfl, HWX⟩ := hcut
          have hwx := HWX.out
          subst hwx
          obtain ⟨w8, rfl⟩ : ∃ w8 : World, w8 = wc := ⟨_, rfl⟩
          clear HWX hto hq
          have HTA := Ap.of (show toA r2 x2 = if q = true then x2 else r2 by
            unfold toA pickR
            rw [HQ.out]
            by_cases h : ltT x2 r2
            · rw [if_pos h, if_pos (decide_eq_true h)]
            · rw [if_neg h, if_neg (by rw [decide_eq_false h]; decide)])
          clear HQ
          go_upto_if 83 with fail
          go_cut [] (fun wx => ∃ m2 : ByteArray, Ap (m2 = toA r2 x2) ∧ Ap (wx.heap[w.heap.size + 1 + 1]? = some (.cells #[.string m1, .string m2, .bool false] 37 (0, 0))) ∧ Ap (wx.heap[w.heap.size + 1]? = some (.cells #[.string ⟨#[]⟩, .string ⟨#[]⟩, .bool false] 37 (0, 0))) ∧ Ap (Only (fun j => j = w.heap.size + 1 + 1) w4 wx) ∧ Ap (Below w.heap.size w wx) ∧ Ap (wx.heap[wr.heap.size]? = some (.cells #[.int .i64 so, .string sp, .int .i64 sk, .int .i64 si, .string st, .slice la2 ln2 lc2, .slice fa2 fn2 fc2, .slice sa2 sn2 sc2] 32 (0, 0))))
          case first =>
            have hse8 := blk_set HR6.out 1 (.string x2)
            have HO8 := Ap.of (HO6.out.set (p := ⟨w.heap.size + 1 + 1, 1, none⟩) rfl (.string x2))
            have HB8 := Ap.of (Below.setCell (p := ⟨w.heap.size + 1 + 1, 1, none⟩) HB6.out (by show w.heap.size ≤ w.heap.size + 1 + 1; omega) (.string x2))
            have HT8 := Ap.of (blk_only HT6.out (Only.setCell _ ⟨w.heap.size + 1 + 1, 1, none⟩ (.string x2)) (by show ¬ w.heap.size + 1 = w.heap.size + 1 + 1; omega))
            have HR8 := Ap.of (show _ = some (.cells #[.string m1, .string x2, .bool false] 37 (0, 0)) from hse8.trans (by simp))
            have HBC8 := Ap.of (blk_only HBC7.out (Only.setCell _ ⟨w.heap.size + 1 + 1, 1, none⟩ (.string x2)) hne)
            clear hse8 HX3 HNX HO2
            cases q with
            | true =>
              go_wp2_with fail
              go_meet
              exact ⟨_, Ap.of (by rw [HTA.out]; rfl), HR8, HT8, HO8, HB8, HBC8⟩
            | false =>
              go_wp2_with fail
              go_meet
              exact ⟨_, Ap.of (by rw [HTA.out]; rfl), HR6, HT6, HO6, HB6, HBC7⟩
          case rest =>
          obtain ⟨m2, HM2, HR9, HT9, HO9, HB9, HBC9⟩ := hcut
          clear HR6 HT6 HO6 HB6 HBC7 cr fr lr cc lcc HTA
          have cr := blk_cells HR9.out
          have lr := blk_lt HR9.out
          have cc := blk_cells HBC9.out
          have lcc := blk_lt HBC9.out
          have HNB := Ap.of (show foldB e sp (cs.take (k + 1)) = (m1, m2, r3 || (so == 2), r4 || x3) by rw [HNX.out, ← HF.out, HO2.out, HM1.out, HM2.out]; rfl)
          clear HNX HO2
          have hx3 : (x3 = true ∧ (x1.toList == []) = false ∧ ¬ x1.toList = []) ∨ (x3 = true ∧ x1 = ⟨#[]⟩ ∧ (x2.toList == []) = false ∧ ¬ x2.toList = []) ∨ (x3 = false ∧ x1 = ⟨#[]⟩ ∧ x2 = ⟨#[]⟩) := by
            rcases HX3.out with ⟨h, h1, h2⟩ | ⟨h, h2⟩
            · exact .inr (.inr ⟨h, h1, h2⟩)
            · by_cases h1 : x1 = ⟨#[]⟩
              · have h3 : ¬ x2.toList = [] := fun e => h2.elim (fun h => h h1) (fun h => h ((tl_nil x2).1 e))
                exact .inr (.inl ⟨h, h1, by simpa using h3, h3⟩)
              · have h3 : ¬ x1.toList = [] := fun e => h1 ((tl_nil x1).1 e)
                exact .inl ⟨h, by simpa using h3, h3⟩
          clear HX3 HM1 HM2
          rcases hx3 with ⟨rfl, d1, d2⟩ | ⟨rfl, rfl, d1, d2⟩ | ⟨rfl, rfl, rfl⟩
          all_goals
            cases r3 <;> cases r4
            all_goals
              go_wp2_with fail
              go_roundw
              case rel => exact ⟨k + 1, _, by have := HLT.out; omega, by go_num, rfl, rfl, Ap.of HNB.out.symm, HR9, HT9, HO9, HB9⟩
              case measure => have := HLT.out; simp [intOf]; omega
      · have HO2 := Ap.of (show o1 = bnd0 by rw [HON.out, if_neg hp])
        have HSAME := Ap.of (show foldB e p (cs.take (k + 1)) = (r1, r2, r3, r4) by rw [HNX.out, HO2.out, bothB_r, HF.out])
        have hsk : ((so == 1) = true ∧ so = 1) ∨ ((so == 1) = false ∧ ¬ so = 1 ∧ (sp.toList == p.toList) = false ∧ ¬ sp.toList = p.toList) := by
          by_cases h1 : so = 1
          · exact .inl ⟨by simpa using h1, h1⟩
          · have hsp : ¬ sp = p := fun h => hp ⟨h, by omega⟩
            have hnl : ¬ sp.toList = p.toList := fun h => hsp (tl_eq h)
            exact .inr ⟨by simpa using h1, h1, by simpa using hnl, hnl⟩
        clear HON HO2 hp hop1 HBF HKN HKS
        go_wp2_with fail
        refine HBC.out.mono ?_
        rintro en w5 ⟨rfl, hb⟩
        have HR5 := Ap.of (blk_bel HR1.out hb)
        have HT5 := Ap.of (blk_bel HT1.out hb)
        have HO5 := Ap.of (HO1.out.bel hb)
        have HB5 := Ap.of (bel_stepB HB1.out HB1.out.size hb)
        have bc5 := blk_bel BC.out hb
        have cc := blk_cells bc5
        have lcc := blk_lt bc5
        clear hb bc5 HBC HR1 HT1 HO1 HB1 c0 c1 c2 c3 c4 c5 c6 c7 lc0 BC
        rcases hsk with ⟨q1, rfl⟩ | ⟨q1, q2, q3, q4⟩
        all_goals
          go_wp2_with fail
          go_roundw
          case rel => exact ⟨k + 1, (r1, r2, r3, r4), by have := HLT.out; omega, by go_num, rfl, rfl, Ap.of HSAME.out.symm, HR5, HT5, HO5, HB5⟩
          case measure => have := HLT.out; simp [intOf]; omega
    · obtain rfl : k = n := by omega
      have hlt' : ¬ (k : Int) < (k : Int) := by omega
      have HE := Ap.of (show b = (r1, r2, r3, r4) by rw [HB.out, HF.out, ← HRL.out, List.take_length])
      have cr := blk_cells HR.out
      have lr := blk_lt HR.out
      have ct := blk_cells HT.out
      have ft := blk_free HT.out
      have lt := blk_lt HT.out
      go_wp2_with fail
      have hs3 := (Only.set (S := fun j => j = w.heap.size + 1) (p := ⟨w.heap.size + 1, 2, none⟩) (Only.set (S := fun j => j = w.heap.size + 1) (p := ⟨w.heap.size + 1, 1, none⟩) (Only.set (S := fun j => j = w.heap.size + 1) (p := ⟨w.heap.size + 1, 0, none⟩) (Only.refl _ wr) rfl (.string r1)) rfl (.string r2)) rfl (.bool false))
      exact bodyPost_ret (v := .tuple #[.agg #[.string r1, .string r2, .bool false], .bool r3, .bool r4]) (by simp [results, Tryd.results12, go_sem, ct]) rfl
        ⟨by rw [HE.out], bel_only BL.out BL.out.size hs3 (fun j hj => by omega)⟩
end Go.Proofs.YtlomieopppndeaaDoor
