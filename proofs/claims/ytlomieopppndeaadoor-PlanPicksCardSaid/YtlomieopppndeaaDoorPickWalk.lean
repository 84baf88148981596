/- plan.Pick: the plan of a filter. -/
import Derived.Test.YtlomieopppndeaaDoorBoundsWalk
namespace Go.Proofs.YtlomieopppndeaaDoor
open Go.RowKit

/-- Descriptions of indexes that are not unique. -/
def KSp : Knd (ByteArray × ByteArray) where
  sz := 3
  R _ _ x cs := cs = [.string x.1, .string x.2, .bool false] ∧ x.1.size ≤ maxLen ∧ x.2.size ≤ maxLen
  len := by rintro w ok x cs ⟨rfl, _⟩; rfl
  one := by
    rintro w ok x cs ⟨rfl, _⟩ u hu
    simp only [List.mem_cons, List.not_mem_nil, or_false] at hu
    rcases hu with rfl | rfl | rfl <;> rfl
  mono := by rintro w ok ok' x cs _ h; exact h
  bound := by rintro w ok x cs h; exact h
  move := by rintro w w' ok x cs _ h; exact h
theorem sp_cells {w : World} {ok : Nat → Prop} {A : Option Addr} {n c : Nat} {xs : List (ByteArray × ByteArray)} (h : Row KSp w ok A n c xs) {i : Nat} (hi : i < n) :
    ∃ (g off : Nat) (nm p : ByteArray), A = some ⟨g, off, none⟩ ∧ xs[i]? = some (nm, p) ∧ w.cell? ⟨g, off + i * 3, none⟩ = some (.string nm) ∧ w.cell? ⟨g, off + i * 3 + 1, none⟩ = some (.string p) ∧ w.cell? ⟨g, off + i * 3 + 2, none⟩ = some (.bool false) := by
  obtain ⟨g, off, ⟨nm, p⟩, cs, hA, hx, ⟨rfl, _⟩, hc⟩ := h.elem hi
  have hz : KSp.sz = 3 := rfl
  rw [hz] at hc
  exact ⟨g, off, nm, p, hA, hx, hc 0 _ rfl, hc 1 _ rfl, hc 2 _ rfl⟩
theorem find_next {α : Type} {xs : List α} {k : Nat} {x : α} (p : α → Bool) (hx : xs[k]? = some x) (hn : (xs.take k).find? p = none) : (xs.take (k + 1)).find? p = if p x = true then some x else none := by
  have hk : k < xs.length := (List.getElem?_eq_some_iff.1 hx).1
  rw [List.getElem?_eq_getElem hk] at hx
  injection hx with hx
  rw [List.take_succ_eq_append_getElem hk, List.find?_append, hn, hx]
  simp [List.find?_cons]
  split <;> simp_all
theorem find_of_take {α : Type} {xs : List α} {k : Nat} {y : α} (p : α → Bool) (h : (xs.take k).find? p = some y) : xs.find? p = some y := by
  rw [← List.take_append_drop k xs, List.find?_append, h]
  rfl
theorem find_keep {α : Type} {xs : List α} {k : Nat} {y : α} (p : α → Bool) (h : (xs.take k).find? p = some y) : (xs.take (k + 1)).find? p = some y := by
  rcases Nat.lt_or_ge k xs.length with hk | hk
  · rw [List.take_succ_eq_append_getElem hk, List.find?_append, h]; rfl
  · rw [List.take_of_length_le (by omega)] at h ⊢; exact h
theorem first_cases (b : ByteArray → Bnd) {sps : List (ByteArray × ByteArray)} {k : Nat} {x : ByteArray × ByteArray} (hnm : ∀ s ∈ sps, s.1 ≠ ⟨#[]⟩) (hx : sps[k]? = some x) :
    ((firstP b (sps.take k)).name ≠ ⟨#[]⟩ ∧ firstP b (sps.take (k + 1)) = firstP b (sps.take k)) ∨ (firstP b (sps.take k) = pln0 ∧ firstP b (sps.take (k + 1)) = if (b x.2).2.2.2 = true then plnOf b x else pln0) := by
  unfold firstP
  cases h : (sps.take k).find? (fun s => (b s.2).2.2.2) with
  | some y =>
    rw [find_keep _ h]
    exact .inl ⟨hnm y (List.mem_of_mem_take (List.mem_of_find?_eq_some h)), rfl⟩
  | none =>
    rw [find_next _ hx h]
    refine .inr ⟨rfl, ?_⟩
    by_cases h2 : (b x.2).2.2.2 = true
    · rw [if_pos h2, if_pos h2]
    · rw [if_neg h2, if_neg h2]
theorem only4 (w : World) (g : Nat) (v0 v1 v2 v3 : Value) : Only (fun j => j = g) w ((((w.setCell ⟨g, 0, none⟩ v0).setCell ⟨g, 1, none⟩ v1).setCell ⟨g, 2, none⟩ v2).setCell ⟨g, 3, none⟩ v3) :=
  Only.set (S := fun j => j = g) (p := ⟨g, 3, none⟩) (Only.set (S := fun j => j = g) (p := ⟨g, 2, none⟩) (Only.set (S := fun j => j = g) (p := ⟨g, 1, none⟩) (Only.set (S := fun j => j = g) (p := ⟨g, 0, none⟩) (Only.refl _ w) rfl v0) rfl v1) rfl v2) rfl v3
theorem blk_set4 {w : World} {g : Nat} {a0 a1 a2 a3 : Value} {t : TypeId} (h : w.heap[g]? = some (.cells #[a0, a1, a2, a3] t (0, 0))) (v0 v1 v2 v3 : Value) :
    ((((w.setCell ⟨g, 0, none⟩ v0).setCell ⟨g, 1, none⟩ v1).setCell ⟨g, 2, none⟩ v2).setCell ⟨g, 3, none⟩ v3).heap[g]? = some (.cells #[v0, v1, v2, v3] t (0, 0)) := by
  have := blk_set (blk_set (blk_set (blk_set h 0 v0) 1 v1) 2 v2) 3 v3
  simpa using this
def PlnP (q : Pln) (w : World) (en : Ending) (w' : World) : Prop := en = .returned (.agg #[.string q.name, .string q.fro, .string q.til, .bool false]) ∧ Below w.heap.size w w'
set_option maxRecDepth 100000 in
set_option maxHeartbeats 4000000 in
theorem pick_calls (d e : Nat) (f : Flt) (la : Option Addr) (ln lc : Nat) (fa : Option Addr) (fn fc : Nat) (sa : Option Addr) (sn sc : Nat) (A : Option Addr) (n c : Nat) (sps : List (ByteArray × ByteArray)) (ok : Nat → Prop) (w : World) (hok : ∀ k, ok k → k < w.heap.size) (he : 5 ≤ e) (h13 : d ≤ 14) (hS : SubsN 7 d f) (hc : ∀ c ∈ condsD d f, CondV c) (hnm : ∀ s ∈ sps, s.1 ≠ ⟨#[]⟩) (G : ParG w) (hR : (KF 11 d).R w (fun _ => True) f [.int .i64 f.op, .string f.path, .int .i64 f.val.kind, .int .i64 f.val.int, .string f.val.text, .slice la ln lc, .slice fa fn fc, .slice sa sn sc]) (hL : Row KSp w ok A n c sps) :
    Calls Tryd.prog 14 #[.agg #[.int .i64 f.op, .string f.path, .int .i64 f.val.kind, .int .i64 f.val.int, .string f.val.text, .slice la ln lc, .slice fa fn fc, .slice sa sn sc], .slice A n c] w (PlnP (pickD (fun p => boundsD e d f p) sps) w) := by
  have hb1 := bel_alloc w (.cells #[.int .i64 f.op, .string f.path, .int .i64 f.val.kind, .int .i64 f.val.int, .string f.val.text, .slice la ln lc, .slice fa fn fc, .slice sa sn sc] 32)
  have hb2 := bel_step hb1 (bel_alloc _ (.cells #[.string ⟨#[]⟩, .string ⟨#[]⟩, .string ⟨#[]⟩, .bool false] 44))
  have hb3 := bel_step hb2 (bel_alloc _ (.cells #[.string ⟨#[]⟩, .string ⟨#[]⟩, .string ⟨#[]⟩, .bool false] 44))
  have HB3 := Ap.of hb3
  have HR3 := Ap.of (blk_new (w := (w.alloc (.cells #[.int .i64 f.op, .string f.path, .int .i64 f.val.kind, .int .i64 f.val.int, .string f.val.text, .slice la ln lc, .slice fa fn fc, .slice sa sn sc] 32)).alloc (.cells #[.string ⟨#[]⟩, .string ⟨#[]⟩, .string ⟨#[]⟩, .bool false] 44)) (k := w.heap.size + 1 + 1) (o := .cells #[.string ⟨#[]⟩, .string ⟨#[]⟩, .string ⟨#[]⟩, .bool false] 44) (by simp))
  have HT3 := Ap.of (blk_old (o' := .cells #[.string ⟨#[]⟩, .string ⟨#[]⟩, .string ⟨#[]⟩, .bool false] 44) (blk_new (w := w.alloc (.cells #[.int .i64 f.op, .string f.path, .int .i64 f.val.kind, .int .i64 f.val.int, .string f.val.text, .slice la ln lc, .slice fa fn fc, .slice sa sn sc] 32)) (k := w.heap.size + 1) (o := .cells #[.string ⟨#[]⟩, .string ⟨#[]⟩, .string ⟨#[]⟩, .bool false] 44) (by simp)))
  have HF3 := Ap.of (blk_old (o' := .cells #[.string ⟨#[]⟩, .string ⟨#[]⟩, .string ⟨#[]⟩, .bool false] 44) (blk_old (o' := .cells #[.string ⟨#[]⟩, .string ⟨#[]⟩, .string ⟨#[]⟩, .bool false] 44) (blk_new (w := w) (k := w.heap.size) (o := .cells #[.int .i64 f.op, .string f.path, .int .i64 f.val.kind, .int .i64 f.val.int, .string f.val.text, .slice la ln lc, .slice fa fn fc, .slice sa sn sc] 32) rfl)))
  have HFR := Ap.of (Knd.below ((KF 11 d).mono (fun k hk => hk.2) ((KF 11 d).bound hR)) hb3)
  have HL3 := Ap.of (hL.below hb3)
  have HLN := Ap.of hL.length
  have hcap := hL.cap
  obtain ⟨b, hb⟩ : ∃ b : ByteArray → Bnd, b = fun p => boundsD e d f p := ⟨_, rfl⟩
  have HBC := Ap.of (fun (W : World) (p : ByteArray) (hW : Below w.heap.size w W) (hfR : (KF 11 d).R W (fun _ => True) f [.int .i64 f.op, .string f.path, .int .i64 f.val.kind, .int .i64 f.val.int, .string f.val.text, .slice la ln lc, .slice fa fn fc, .slice sa sn sc]) => bounds_calls d e f la ln lc fa fn fc sa sn sc p W he h13 hS hc (G.below hW) hfR)
  obtain ⟨q, hq⟩ : ∃ q, q = pickD b sps := ⟨_, rfl⟩
  rw [← hb, ← hq]
  have HQ := Ap.of hq
  have HBF := Ap.of hb
  have HNM := Ap.of hnm
  have HOK := Ap.of hok
  clear hb1 hb2 hb3 hS hc G hR hL he h13 hb hq hnm hok
  unfold PlnP
  unfold BndP at HBC
  go_enter Tryd.func14, Tryd.ntmps14
  go_wp2_with fail
  generalize hW3 : ((w.alloc (.cells #[.int .i64 f.op, .string f.path, .int .i64 f.val.kind, .int .i64 f.val.int, .string f.val.text, .slice la ln lc, .slice fa fn fc, .slice sa sn sc] 32)).alloc (.cells #[.string ⟨#[]⟩, .string ⟨#[]⟩, .string ⟨#[]⟩, .bool false] 44)).alloc (.cells #[.string ⟨#[]⟩, .string ⟨#[]⟩, .string ⟨#[]⟩, .bool false] 44) = w3 at *
  have HS3 := Ap.of (show w.heap.size + 3 ≤ w3.heap.size by rw [← hW3]; simp)
  clear hW3
  go_loopw [13] (fun v13 wr => ∃ (k : Nat) (q1 : Pln), k ≤ n ∧ v13 = .int .i64 k ∧ Ap (q1 = firstP b (sps.take k)) ∧ Ap ((sps.take k).find? (fun s => (b s.2).2.2.1) = none) ∧ Ap (wr.heap[w.heap.size + 1 + 1]? = some (.cells #[.string q1.name, .string q1.fro, .string q1.til, .bool false] 44 (0, 0))) ∧ Ap (wr.heap[w.heap.size + 1]? = some (.cells #[.string ⟨#[]⟩, .string ⟨#[]⟩, .string ⟨#[]⟩, .bool false] 44 (0, 0))) ∧ Ap (Only (fun j => j = w.heap.size + 1 + 1) w3 wr) ∧ Ap (Below w.heap.size w wr)) (fun v13 _ => n - (intOf v13).toNat)
  case atStart => exact ⟨0, pln0, Nat.zero_le _, rfl, Ap.of rfl, Ap.of rfl, HR3, HT3, Ap.of (Only.refl _ _), HB3⟩
  case round =>
    obtain ⟨k, ⟨q1, q2, q3⟩, hk, rfl, HF, HN, HR, HT, HO, BL⟩ := hrel
    by_cases hlt : k < n
    · obtain ⟨g2, off, nm, p, rfl, hx, c0, c1, c2⟩ := sp_cells (HL3.out.only HO.out (fun j hj he => by have := HOK.out j hj; omega)) hlt
      have hba := bel_alloc wr (.cells #[.string nm, .string p, .bool false] 46)
      have HX := Ap.of hx
      have HNN := Ap.of (HNM.out _ (List.mem_of_getElem? hx))
      have BFW := Ap.of (blk_bel (blk_only HF3.out HO.out (show ¬ w.heap.size = w.heap.size + 1 + 1 by omega)) hba)
      have HC := Ap.of (HBC.out (wr.alloc (.cells #[.string nm, .string p, .bool false] 46)) p (bel_stepB BL.out BL.out.size hba) ((KF 11 d).mono (fun _ _ => trivial) (Knd.below (Knd.only HFR.out HO.out (fun j hj he => by omega)) hba)))
      have hbp : boundsD e d f p = b p := by rw [HBF.out]
      rw [hbp] at HC
      have HR1 := Ap.of (blk_bel HR.out hba)
      have HT1 := Ap.of (blk_bel HT.out hba)
      have HO1 := Ap.of (HO.out.alloc (.cells #[.string nm, .string p, .bool false] 46))
      have HB1 := Ap.of (bel_stepB BL.out BL.out.size hba)
      have BC := Ap.of (blk_new (w := wr) (k := wr.heap.size) (o := .cells #[.string nm, .string p, .bool false] 46) rfl)
      have HE1 := Ap.of (find_next (fun s => (b s.2).2.2.1) hx HN.out)
      have HLT := Ap.of hlt
      have hlt' : (k : Int) < (n : Int) := by omega
      have lc0 := World.block_lt_of_cell? _ _ c0
      have cf := blk_cells BFW.out
      have lf := blk_lt BFW.out
      clear hx hba hbp
      generalize hxp : b p = x at *
      obtain ⟨x1, x2, x3, x4⟩ := x
      have HXP := Ap.of hxp
      clear hxp
      go_wp2_with fail
      refine HC.out.mono ?_
      rintro en w5 ⟨rfl, hb⟩
      have hbU := bel_step hb (bel_alloc w5 (.cells #[.string x1, .string x2, .bool false] 37))
      have HR5 := Ap.of (blk_bel HR1.out hbU)
      have HT5 := Ap.of (blk_bel HT1.out hbU)
      have HO5 := Ap.of (HO1.out.bel hbU)
      have HB5 := Ap.of (bel_stepB HB1.out HB1.out.size hbU)
      have BC5 := Ap.of (blk_bel BC.out hbU)
      have BX5 := Ap.of (blk_new (w := w5) (k := w5.heap.size) (o := .cells #[.string x1, .string x2, .bool false] 37) rfl)
      have HFC := Ap.of (first_cases b HNM.out HX.out)
      clear hb hbU HC HR1 HT1 HO1 HB1 BC cf lf c0 c1 c2 lc0
      go_upto_region 6 with fail
      generalize w5.alloc (.cells #[.string x1, .string x2, .bool false] 37) = U at *
      generalize w5.heap.size = g8 at *
      have cr := blk_cells HR5.out
      have fr := blk_free HR5.out
      have lr := blk_lt HR5.out
      have ct := blk_cells HT5.out
      have ft := blk_free HT5.out
      have lt := blk_lt HT5.out
      have cc := blk_cells BC5.out
      have lcc := blk_lt BC5.out
      have cx := blk_cells BX5.out
      have lx := blk_lt BX5.out
      cases x3 with
      | true =>
        have HQE := Ap.of (show q = ⟨nm, x1, x2⟩ by
          have h := HE1.out
          rw [if_pos rfl] at h
          rw [HQ.out]
          unfold pickD
          rw [find_of_take _ h]
          show plnOf b (nm, p) = _
          unfold plnOf
          show (⟨nm, (b p).1, (b p).2.1⟩ : Pln) = _
          rw [HXP.out])
        clear HE1 HFC HF HN HQ
        go_wp2_with fail
        have hs := only4 U (w.heap.size + 1) (.string nm) (.string x1) (.string x2) (.bool false)
        exact bodyPost_ret (v := .agg #[.string nm, .string x1, .string x2, .bool false]) (by simp [results, Tryd.results14, go_sem, ct]) rfl
          ⟨by rw [HQE.out], bel_only HB5.out HB5.out.size hs (fun j hj => by omega)⟩
      | false =>
        have HN2 := Ap.of (show (sps.take (k + 1)).find? (fun s => (b s.2).2.2.1) = none by
          rw [HE1.out, if_neg (by decide)])
        have hfc : (¬ q1 = ⟨#[]⟩ ∧ firstP b (sps.take (k + 1)) = ⟨q1, q2, q3⟩) ∨ (q1 = ⟨#[]⟩ ∧ firstP b (sps.take (k + 1)) = if x4 = true then ⟨nm, x1, x2⟩ else ⟨q1, q2, q3⟩) := by
          rcases HFC.out with ⟨h1, h2⟩ | ⟨h1, h2⟩
          · rw [← HF.out] at h1 h2
            exact .inl ⟨h1, h2⟩
          · have h3 := HF.out.trans h1
            refine .inr ⟨congrArg Pln.name h3, ?_⟩
            rw [h2, h3]
            show (if (b p).2.2.2 = true then (⟨nm, (b p).1, (b p).2.1⟩ : Pln) else pln0) = _
            rw [HXP.out]
        clear HE1 HFC HF HN
        rcases hfc with ⟨n1, h2⟩ | ⟨n1, h2⟩
        · have HF2 := Ap.of h2
          have n2 : ¬ q1.toList = [] := fun h => n1 ((tl_nil q1).1 h)
          have n3 : (q1.toList == []) = false := by simpa using n2
          clear h2 n1
          cases x4
          all_goals
            go_wp2_with fail
            go_roundw
            case rel => exact ⟨k + 1, ⟨q1, q2, q3⟩, by have := HLT.out; omega, by go_num, Ap.of HF2.out.symm, HN2, HR5, HT5, HO5, HB5⟩
            case measure => have := HLT.out; simp [intOf]; omega
        · subst n1
          cases x4 with
          | false =>
            have HF2 := Ap.of (show firstP b (sps.take (k + 1)) = ⟨⟨#[]⟩, q2, q3⟩ from h2)
            clear h2
            go_wp2_with fail
            go_roundw
            case rel => exact ⟨k + 1, ⟨⟨#[]⟩, q2, q3⟩, by have := HLT.out; omega, by go_num, Ap.of HF2.out.symm, HN2, HR5, HT5, HO5, HB5⟩
            case measure => have := HLT.out; simp [intOf]; omega
          | true =>
            have HF2 := Ap.of (show firstP b (sps.take (k + 1)) = ⟨nm, x1, x2⟩ from h2)
            clear h2
            have hs := only4 U (w.heap.size + 1 + 1) (.string nm) (.string x1) (.string x2) (.bool false)
            have HR6 := Ap.of (blk_set4 HR5.out (.string nm) (.string x1) (.string x2) (.bool false))
            have HT6 := Ap.of (blk_only HT5.out hs (show ¬ w.heap.size + 1 = w.heap.size + 1 + 1 by omega))
            have HO6 := Ap.of (HO5.out.trans hs (fun i hi => .inl hi))
            have HB6 := Ap.of (bel_only HB5.out HB5.out.size hs (fun j hj => by omega))
            clear hs
            go_wp2_with fail
            go_roundw
            case rel => exact ⟨k + 1, ⟨nm, x1, x2⟩, by have := HLT.out; omega, by go_num, Ap.of HF2.out.symm, HN2, HR6, HT6, HO6, HB6⟩
            case measure => have := HLT.out; simp [intOf]; omega
    · obtain rfl : k = n := by omega
      have hlt' : ¬ (k : Int) < (k : Int) := by omega
      have HQE := Ap.of (show q = ⟨q1, q2, q3⟩ by
        have h1 := HN.out
        have h2 := HF.out
        rw [← HLN.out, List.take_length] at h1 h2
        rw [HQ.out]
        unfold pickD
        rw [h1]
        exact h2.symm)
      have cr := blk_cells HR.out
      have lr := blk_lt HR.out
      have ct := blk_cells HT.out
      have ft := blk_free HT.out
      have lt := blk_lt HT.out
      go_wp2_with fail
      have hs := only4 wr (w.heap.size + 1) (.string q1) (.string q2) (.string q3) (.bool false)
      exact bodyPost_ret (v := .agg #[.string q1, .string q2, .string q3, .bool false]) (by simp [results, Tryd.results14, go_sem, ct]) rfl
        ⟨by rw [HQE.out], bel_only BL.out BL.out.size hs (fun j hj => by omega)⟩
end Go.Proofs.YtlomieopppndeaaDoor
