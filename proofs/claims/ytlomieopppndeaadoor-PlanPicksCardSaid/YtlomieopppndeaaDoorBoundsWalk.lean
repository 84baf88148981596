/- plan.Bounds: the range of the keys that a filter lets be. -/
import Derived.Test.YtlomieopppndeaaDoorBoundWalk
namespace Go.Proofs.YtlomieopppndeaaDoor
open Go.RowKit

theorem less_eq (a b : ByteArray) : Op.bytesLess a.toList b.toList = decide (ltA a b) := by rw [Proofs.bytesLess_eq, Lib.toList_data, Lib.toList_data]; rfl
theorem tl_eq {a b : ByteArray} (h : a.toList = b.toList) : a = b := by
  rw [Lib.toList_data, Lib.toList_data] at h
  exact ba_ext h
theorem tl_nil (a : ByteArray) : a.toList = [] ↔ a = ⟨#[]⟩ := ⟨fun h => tl_eq (b := ⟨#[]⟩) (h.trans (by rw [Lib.toList_data])), fun h => by rw [h, Lib.toList_data]⟩
/-- What is told of a range. -/
def BndP (b : Bnd) (w : World) (en : Ending) (w' : World) : Prop := en = .returned (.tuple #[.agg #[.string b.1, .string b.2.1, .bool false], .bool b.2.2.1, .bool b.2.2.2]) ∧ Below w.heap.size w w'
set_option maxRecDepth 100000 in
set_option maxHeartbeats 4000000 in
theorem bounds_calls (d e : Nat) (f : Flt) (la : Option Addr) (ln lc : Nat) (fa : Option Addr) (fn fc : Nat) (sa : Option Addr) (sn sc : Nat) (p : ByteArray) (w : World) (he : 5 ≤ e) (h13 : d ≤ 14) (hS : SubsN 7 d f) (hc : ∀ c ∈ condsD d f, CondV c) (G : ParG w) (hR : (KF 11 d).R w (fun _ => True) f [.int .i64 f.op, .string f.path, .int .i64 f.val.kind, .int .i64 f.val.int, .string f.val.text, .slice la ln lc, .slice fa fn fc, .slice sa sn sc]) :
    Calls Tryd.prog 11 #[.agg #[.int .i64 f.op, .string f.path, .int .i64 f.val.kind, .int .i64 f.val.int, .string f.val.text, .slice la ln lc, .slice fa fn fc, .slice sa sn sc], .string p] w (BndP (boundsD e d f p) w) := by
  have hb1 := bel_alloc w (.cells #[.int .i64 f.op, .string f.path, .int .i64 f.val.kind, .int .i64 f.val.int, .string f.val.text, .slice la ln lc, .slice fa fn fc, .slice sa sn sc] 32)
  have hb2 := bel_step hb1 (bel_alloc _ (.cells #[.string ⟨#[]⟩, .string ⟨#[]⟩, .bool false] 37))
  have hb3 := bel_step hb2 (bel_alloc _ (.cells #[.string ⟨#[]⟩, .string ⟨#[]⟩, .bool false] 37))
  have HB3 := Ap.of hb3
  have HR3 := Ap.of (blk_new (w := (w.alloc (.cells #[.int .i64 f.op, .string f.path, .int .i64 f.val.kind, .int .i64 f.val.int, .string f.val.text, .slice la ln lc, .slice fa fn fc, .slice sa sn sc] 32)).alloc (.cells #[.string ⟨#[]⟩, .string ⟨#[]⟩, .bool false] 37)) (k := w.heap.size + 1 + 1) (o := .cells #[.string ⟨#[]⟩, .string ⟨#[]⟩, .bool false] 37) (by simp))
  have HT3 := Ap.of (blk_old (o' := .cells #[.string ⟨#[]⟩, .string ⟨#[]⟩, .bool false] 37) (blk_new (w := w.alloc (.cells #[.int .i64 f.op, .string f.path, .int .i64 f.val.kind, .int .i64 f.val.int, .string f.val.text, .slice la ln lc, .slice fa fn fc, .slice sa sn sc] 32)) (k := w.heap.size + 1) (o := .cells #[.string ⟨#[]⟩, .string ⟨#[]⟩, .bool false] 37) (by simp)))
  have HSZ := Ap.of (show (((w.alloc (.cells #[.int .i64 f.op, .string f.path, .int .i64 f.val.kind, .int .i64 f.val.int, .string f.val.text, .slice la ln lc, .slice fa fn fc, .slice sa sn sc] 32)).alloc (.cells #[.string ⟨#[]⟩, .string ⟨#[]⟩, .bool false] 37)).alloc (.cells #[.string ⟨#[]⟩, .string ⟨#[]⟩, .bool false] 37)).heap.size = w.heap.size + 3 by simp)
  have HCL := Ap.of (conds_calls 10 d 14 f la ln lc fa fn fc sa sn sc (fun k => k < w.heap.size) _ h13 h13 (fun k hk => Nat.lt_of_lt_of_le hk hb3.size) hS (Knd.below ((KF 11 d).mono (fun k hk => hk.2) ((KF 11 d).bound hR)) hb3))
  obtain ⟨b, hb⟩ : ∃ b, b = boundsD e d f p := ⟨_, rfl⟩
  rw [← hb]
  have HB := Ap.of (show b = foldB e p (condsD d f) from hb)
  have HCV := Ap.of hc
  have GG := Ap.of G
  have HE5 := Ap.of he
  clear hb1 hb2 hb3 hS hc G hR hb he h13
  unfold BndP
  generalize condsD d f = cs at *
  generalize f.path = fp at *
  generalize f.val.kind = fk at *
  generalize f.val.int = fi at *
  generalize f.val.text = ft at *
  generalize f.op = fo at *
  go_enter Tryd.func11, Tryd.ntmps11
  go_wp2_with fail
  refine HCL.out.mono ?_
  rintro en w4 ⟨A, n, c, rfl, hrow, hb⟩
  have HROW := Ap.of hrow
  have HRL := Ap.of hrow.length
  have hcap := hrow.cap
  have HR4 := Ap.of (blk_bel HR3.out hb)
  have HT4 := Ap.of (blk_bel HT3.out hb)
  have HB4 := Ap.of (bel_step HB3.out hb)
  have HS4 := Ap.of (show w.heap.size + 3 ≤ w4.heap.size by have := HSZ.out; have := hb.size; omega)
  clear hrow hb HCL HR3 HT3 HB3
  go_wp2_with fail
  go_loopw [8, 9, 18] (fun v8 v9 v18 wr => ∃ (k : Nat) (r : Bnd), k ≤ n ∧ v18 = .int .i64 k ∧ v8 = .bool r.2.2.1 ∧ v9 = .bool r.2.2.2 ∧ Ap (r = foldB e p (cs.take k)) ∧ Ap (wr.heap[w.heap.size + 1 + 1]? = some (.cells #[.string r.1, .string r.2.1, .bool false] 37 (0, 0))) ∧ Ap (wr.heap[w.heap.size + 1]? = some (.cells #[.string ⟨#[]⟩, .string ⟨#[]⟩, .bool false] 37 (0, 0))) ∧ Ap (Only (fun j => j = w.heap.size + 1 + 1) w4 wr) ∧ Ap (Below w.heap.size w wr)) (fun _ _ v18 _ => n - (intOf v18).toNat)
  case atStart => exact ⟨0, bnd0, Nat.zero_le _, rfl, rfl, rfl, Ap.of rfl, HR4, HT4, Ap.of (Only.refl _ _), HB4⟩
  case round =>
    obtain ⟨k, ⟨r1, r2, r3, r4⟩, hk, rfl, rfl, rfl, HF, HR, HT, HO, BL⟩ := hrel
    by_cases hlt : k < n
    · obtain ⟨g2, off, s, la2, ln2, lc2, fa2, fn2, fc2, sa2, sn2, sc2, rfl, hx, hrs, c0, c1, c2, c3, c4, c5, c6, c7⟩ := flt_cells (HROW.out.only HO.out (fun j hj he => by have := HSZ.out; have := HS4.out; rcases hj with h | h <;> omega)) hlt
      have hba := bel_alloc wr (.cells #[.int .i64 s.op, .string s.path, .int .i64 s.val.kind, .int .i64 s.val.int, .string s.val.text, .slice la2 ln2 lc2, .slice fa2 fn2 fc2, .slice sa2 sn2 sc2] 32)
      have hcv := HCV.out s (List.mem_of_getElem? hx)
      have HNX := Ap.of (foldB_next e p hx)
      have HBC := Ap.of (bound_calls 14 e s la2 ln2 lc2 fa2 fn2 fc2 sa2 sn2 sc2 (wr.alloc (.cells #[.int .i64 s.op, .string s.path, .int .i64 s.val.kind, .int .i64 s.val.int, .string s.val.text, .slice la2 ln2 lc2, .slice fa2 fn2 fc2, .slice sa2 sn2 sc2] 32)) HE5.out hcv (GG.out.below (bel_stepB BL.out BL.out.size hba)) (Knd.below ((KF 11 15).mono (fun _ _ => trivial) hrs) hba))
      have HON := Ap.of (show oneB e p s = if s.path = p ∧ 2 ≤ s.op then ((boundF e s).1, (boundF e s).2.1, s.op == 2, (boundF e s).2.2) else bnd0 from rfl)
      have HR1 := Ap.of (blk_bel HR.out hba)
      have HT1 := Ap.of (blk_bel HT.out hba)
      have HO1 := Ap.of (HO.out.alloc (.cells #[.int .i64 s.op, .string s.path, .int .i64 s.val.kind, .int .i64 s.val.int, .string s.val.text, .slice la2 ln2 lc2, .slice fa2 fn2 fc2, .slice sa2 sn2 sc2] 32))
      have HB1 := Ap.of (bel_stepB BL.out BL.out.size hba)
      have BC := Ap.of (blk_new (w := wr) (k := wr.heap.size) (o := .cells #[.int .i64 s.op, .string s.path, .int .i64 s.val.kind, .int .i64 s.val.int, .string s.val.text, .slice la2 ln2 lc2, .slice fa2 fn2 fc2, .slice sa2 sn2 sc2] 32) rfl)
      have HLT := Ap.of hlt
      have hlt' : (k : Int) < (n : Int) := by omega
      have lc0 := World.block_lt_of_cell? _ _ c0
      have hop1 : 1 ≤ s.op := hcv.2.1
      clear hx hrs hba hcv
      generalize oneB e p s = o1 at *
      generalize hx2 : boundF e s = x at *
      obtain ⟨x1, x2, x3⟩ := x
      clear hx2
      generalize s.path = sp at *
      generalize s.val.kind = sk at *
      generalize s.val.int = si at *
      generalize s.val.text = st at *
      generalize s.op = so at *
      by_cases hp : sp = p ∧ 2 ≤ so
      · have HO2 := Ap.of (show o1 = (x1, x2, so == 2, x3) by rw [HON.out, if_pos hp])
        obtain ⟨rfl, ho2⟩ := hp
        have q1 : (sp.toList == sp.toList) = true := by simp
        have q2 : decide (so < 2) = false := by simp; omega
        have q3 : ¬ so < 2 := by omega
        clear HON hop1 ho2
        go_wp2_with fail
        refine HBC.out.mono ?_
        rintro en w5 ⟨rfl, hb⟩
        have HR5 := Ap.of (blk_bel HR1.out hb)
        have HT5 := Ap.of (blk_bel HT1.out hb)
        have HO5 := Ap.of (HO1.out.bel hb)
        have HB5 := Ap.of (bel_stepB HB1.out HB1.out.size hb)
        have bc5 := blk_bel BC.out hb
        have cc := blk_cells bc5
        have lcc := blk_lt bc5
        have cr := blk_cells HR5.out
        have fr := blk_free HR5.out
        have lr := blk_lt HR5.out
        have hne : ¬ wr.heap.size = w.heap.size + 1 + 1 := by have h1 := HS4.out; have h2 := HO.out.size; omega
        have hmx : ∀ (W : World) ts t, (Builtin.max_ ts t #[.string r1, .string x1]).run Tryd.prog W = .ok (.string (maxA r1 x1)) W := fun W ts t => Lib.run_max_strs W ts t r1 x1
        have HBB := Ap.of (show bothB (r1, r2, r3, r4) (x1, x2, so == 2, x3) = (maxA r1 x1, toA r2 x2, r3 || (so == 2), r4 || x3) from rfl)
        clear hb bc5 HBC HR1 HT1 HO1 HB1 c0 c1 c2 c3 c4 c5 c6 c7 lc0 BC
        generalize hmm : maxA r1 x1 = mx at *
        clear hmm
        have hto : (toA r2 x2 = r2 ∧ x2 = ⟨#[]⟩ ∧ (x2.toList == []) = true ∧ x2.toList = []) ∨ (toA r2 x2 = x2 ∧ (x2.toList == []) = false ∧ ¬ x2.toList = [] ∧ r2 = ⟨#[]⟩) ∨
            ((x2.toList == []) = false ∧ ¬ x2.toList = [] ∧ (r2.toList == []) = false ∧ ¬ r2.toList = [] ∧ ((toA r2 x2 = x2 ∧ Op.bytesLess x2.toList r2.toList = true) ∨ (toA r2 x2 = r2 ∧ Op.bytesLess x2.toList r2.toList = false))) := by
          unfold toA pickR
          by_cases h2 : x2 = ⟨#[]⟩
          · exact .inl ⟨if_neg (fun h => h.1 h2), h2, by simpa using (tl_nil x2).2 h2, (tl_nil x2).2 h2⟩
          · have hn : ¬ x2.toList = [] := fun h => h2 ((tl_nil x2).1 h)
            by_cases h3 : r2 = ⟨#[]⟩
            · exact .inr (.inl ⟨if_pos ⟨h2, .inl h3⟩, by simpa using hn, hn, h3⟩)
            · have hn3 : ¬ r2.toList = [] := fun h => h3 ((tl_nil r2).1 h)
              refine .inr (.inr ⟨by simpa using hn, hn, by simpa using hn3, hn3, ?_⟩)
              rw [less_eq]
              by_cases h4 : ltA x2 r2
              · exact .inl ⟨if_pos ⟨h2, .inr h4⟩, by simpa using h4⟩
              · exact .inr ⟨if_neg (fun h => h.2.elim h3 h4), by simpa using h4⟩
        have hse := blk_set HR5.out 0 (.string mx)
        have HO6 := Ap.of (HO5.out.set (p := ⟨w.heap.size + 1 + 1, 0, none⟩) rfl (.string mx))
        have HB6 := Ap.of (Below.setCell (p := ⟨w.heap.size + 1 + 1, 0, none⟩) HB5.out (by show w.heap.size ≤ w.heap.size + 1 + 1; omega) (.string mx))
        have HT6 := Ap.of (blk_only HT5.out (Only.setCell w5 ⟨w.heap.size + 1 + 1, 0, none⟩ (.string mx)) (by show ¬ w.heap.size + 1 = w.heap.size + 1 + 1; omega))
        have HR6 := Ap.of (show (w5.setCell ⟨w.heap.size + 1 + 1, 0, none⟩ (.string mx)).heap[w.heap.size + 1 + 1]? = some (.cells #[.string mx, .string r2, .bool false] 37 (0, 0)) from by simpa using hse)
        clear hse
        rcases hto with ⟨e1, e2, e3, e4⟩ | ⟨e1, e3, e4, e5⟩ | ⟨e3, e4, e5, e6, h⟩
        · have HNB := Ap.of (show foldB e sp (cs.take (k + 1)) = (mx, r2, r3 || (so == 2), r4 || x3) by rw [HNX.out, ← HF.out, HO2.out, HBB.out, e1])
          subst e2
          clear HNX HO2 HBB e1 e3 e4
          cases r3 <;> cases r4
          all_goals
            go_wp2_with fail
            go_roundw
            case rel => exact ⟨k + 1, _, by have := HLT.out; omega, by go_num, rfl, rfl, Ap.of HNB.out.symm, HR6, HT6, HO6, HB6⟩
            case measure => have := HLT.out; simp [intOf]; omega
        · have HNB := Ap.of (show foldB e sp (cs.take (k + 1)) = (mx, x2, r3 || (so == 2), r4 || x3) by rw [HNX.out, ← HF.out, HO2.out, HBB.out, e1])
          have hse2 := blk_set HR6.out 1 (.string x2)
          have HO7 := Ap.of (HO6.out.set (p := ⟨w.heap.size + 1 + 1, 1, none⟩) rfl (.string x2))
          have HB7 := Ap.of (Below.setCell (p := ⟨w.heap.size + 1 + 1, 1, none⟩) HB6.out (by show w.heap.size ≤ w.heap.size + 1 + 1; omega) (.string x2))
          have HT7 := Ap.of (blk_only HT6.out (Only.setCell _ ⟨w.heap.size + 1 + 1, 1, none⟩ (.string x2)) (by show ¬ w.heap.size + 1 = w.heap.size + 1 + 1; omega))
          have HR7 := Ap.of (show ((w5.setCell ⟨w.heap.size + 1 + 1, 0, none⟩ (.string mx)).setCell ⟨w.heap.size + 1 + 1, 1, none⟩ (.string x2)).heap[w.heap.size + 1 + 1]? = some (.cells #[.string mx, .string x2, .bool false] 37 (0, 0)) from by simpa using hse2)
          subst e5
          clear HNX HO2 HBB e1 hse2
          cases r3 <;> cases r4
          all_goals
            go_wp2_with fail
            go_roundw
            case rel => exact ⟨k + 1, _, by have := HLT.out; omega, by go_num, rfl, rfl, Ap.of HNB.out.symm, HR7, HT7, HO7, HB7⟩
            case measure => have := HLT.out; simp [intOf]; omega
        rcases h with ⟨e1, e7⟩ | ⟨e1, e7⟩
        · have HNB := Ap.of (show foldB e sp (cs.take (k + 1)) = (mx, x2, r3 || (so == 2), r4 || x3) by rw [HNX.out, ← HF.out, HO2.out, HBB.out, e1])
          have hse2 := blk_set HR6.out 1 (.string x2)
          have HO7 := Ap.of (HO6.out.set (p := ⟨w.heap.size + 1 + 1, 1, none⟩) rfl (.string x2))
          have HB7 := Ap.of (Below.setCell (p := ⟨w.heap.size + 1 + 1, 1, none⟩) HB6.out (by show w.heap.size ≤ w.heap.size + 1 + 1; omega) (.string x2))
          have HT7 := Ap.of (blk_only HT6.out (Only.setCell _ ⟨w.heap.size + 1 + 1, 1, none⟩ (.string x2)) (by show ¬ w.heap.size + 1 = w.heap.size + 1 + 1; omega))
          have HR7 := Ap.of (show ((w5.setCell ⟨w.heap.size + 1 + 1, 0, none⟩ (.string mx)).setCell ⟨w.heap.size + 1 + 1, 1, none⟩ (.string x2)).heap[w.heap.size + 1 + 1]? = some (.cells #[.string mx, .string x2, .bool false] 37 (0, 0)) from by simpa using hse2)
          clear HNX HO2 HBB e1 hse2
          cases r3 <;> cases r4
          all_goals
            go_wp2_with fail
            go_roundw
            case rel => exact ⟨k + 1, _, by have := HLT.out; omega, by go_num, rfl, rfl, Ap.of HNB.out.symm, HR7, HT7, HO7, HB7⟩
            case measure => have := HLT.out; simp [intOf]; omega
        · have HNB := Ap.of (show foldB e sp (cs.take (k + 1)) = (mx, r2, r3 || (so == 2), r4 || x3) by rw [HNX.out, ← HF.out, HO2.out, HBB.out, e1])
          clear HNX HO2 HBB e1
          cases r3 <;> cases r4
          all_goals
            go_wp2_with fail
            go_roundw
            case rel => exact ⟨k + 1, _, by have := HLT.out; omega, by go_num, rfl, rfl, Ap.of HNB.out.symm, HR6, HT6, HO6, HB6⟩
            case measure => have := HLT.out; simp [intOf]; omega
      · have HO2 := Ap.of (show o1 = bnd0 by rw [HON.out, if_neg hp])
        have HSAME := Ap.of (show foldB e p (cs.take (k + 1)) = (r1, r2, r3, r4) by rw [HNX.out, HO2.out, bothB_r, HF.out])
        by_cases hp1 : sp = p
        · subst hp1
          have q1 : (sp.toList == sp.toList) = true := by simp
          have hlt2 : so < 2 := by
            rcases Int.lt_or_le so 2 with h | h
            · exact h
            · exact (hp ⟨rfl, h⟩).elim
          have q2 : decide (so < 2) = true := by simpa using hlt2
          clear HON HO2 hp hlt2 hop1
          go_wp2_with fail
          go_roundw
          case rel => exact ⟨k + 1, (r1, r2, r3, r4), by have := HLT.out; omega, by go_num, rfl, rfl, Ap.of HSAME.out.symm, HR1, HT1, HO1, HB1⟩
          case measure => have := HLT.out; simp [intOf]; omega
        · have q1 : (sp.toList == p.toList) = false := by simpa using fun h => hp1 (tl_eq h)
          have q1' : ¬ sp.toList = p.toList := fun h => hp1 (tl_eq h)
          clear HON HO2 hp hop1 hp1
          go_wp2_with fail
          go_roundw
          case rel => exact ⟨k + 1, (r1, r2, r3, r4), by have := HLT.out; omega, by go_num, rfl, rfl, Ap.of HSAME.out.symm, HR1, HT1, HO1, HB1⟩
          case measure => have := HLT.out; simp [intOf]; omega
    · obtain rfl : k = n := by omega
      have hlt' : ¬ (k : Int) < (k : Int) := by omega
      have HE := Ap.of (show b = (r1, r2, r3, r4) by rw [HB.out, HF.out, ← HRL.out, List.take_length])
      have cr := blk_cells HR.out
      have lr := blk_lt HR.out
      have ct := blk_cells HT.out
      have ft := blk_free HT.out
      have lt := blk_lt HT.out
      go_wp2_with fail
      have hs3 := (Only.set (S := fun j => j = w.heap.size + 1) (p := ⟨w.heap.size + 1, 2, none⟩) (Only.set (S := fun j => j = w.heap.size + 1) (p := ⟨w.heap.size + 1, 1, none⟩) (Only.set (S := fun j => j = w.heap.size + 1) (p := ⟨w.heap.size + 1, 0, none⟩) (Only.refl _ wr) rfl (.string r1)) rfl (.string r2)) rfl (.bool false))
      exact bodyPost_ret (v := .tuple #[.agg #[.string r1, .string r2, .bool false], .bool r3, .bool r4]) (by simp [results, Tryd.results11, go_sem, ct]) rfl
        ⟨by rw [HE.out], bel_only BL.out BL.out.size hs3 (fun j hj => by omega)⟩
end Go.Proofs.YtlomieopppndeaaDoor
