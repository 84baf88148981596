/- roundelaylaw16.oneWrong of a condition, or of conditions. -/
import Derived.Test.YtlomieopppndeaaGreatDoorWrong
namespace Go.Proofs.YtlomieopppndeaaGreatDoor
open Go.RowKit

set_option maxRecDepth 100000 in
theorem idx_tests {s : ByteArray} (h : s ∈ testsOf) : ∀ w, (Instr.index 9 (.string s) (.int .i64 0)).run Tryz.prog w = .ok (.int .u8 36) w := by
  simp only [testsOf, List.mem_cons, List.not_mem_nil, or_false] at h
  rcases h with rfl | rfl | rfl | rfl | rfl | rfl | rfl | rfl <;> exact fun _ => by kernel_rfl
set_option maxRecDepth 100000 in
theorem idx_names {s : ByteArray} (h : s ∈ namesOf) : ∃ c : Int, (∀ w, (Instr.index 9 (.string s) (.int .i64 0)).run Tryz.prog w = .ok (.int .u8 c) w) ∧ (c == 36) = false := by
  simp only [namesOf, List.mem_cons, List.not_mem_nil, or_false] at h
  rcases h with rfl | rfl | rfl | rfl
  · exact ⟨97, fun _ => by kernel_rfl, rfl⟩
  · exact ⟨98, fun _ => by kernel_rfl, rfl⟩
  · exact ⟨99, fun _ => by kernel_rfl, rfl⟩
  · exact ⟨110, fun _ => by kernel_rfl, rfl⟩
set_option maxRecDepth 100000 in
theorem idx_docs {s : ByteArray} (h : s ∈ docNames.drop 2) : ∃ c : Int, (∀ w, (Instr.index 9 (.string s) (.int .i64 0)).run Tryz.prog w = .ok (.int .u8 c) w) ∧ (c == 36) = false ∧ (s.toList == [36, 97, 110, 100]) = false ∧ (s.toList == [36, 111, 114]) = false ∧ (s.toList == []) = false := by
  simp only [docNames, List.drop, List.mem_cons, List.not_mem_nil, or_false] at h
  rcases h with rfl | rfl | rfl | rfl | rfl
  · exact ⟨97, fun _ => by kernel_rfl, rfl, by decide +kernel, by decide +kernel, by decide +kernel⟩
  · exact ⟨97, fun _ => by kernel_rfl, rfl, by decide +kernel, by decide +kernel, by decide +kernel⟩
  · exact ⟨98, fun _ => by kernel_rfl, rfl, by decide +kernel, by decide +kernel, by decide +kernel⟩
  · exact ⟨99, fun _ => by kernel_rfl, rfl, by decide +kernel, by decide +kernel, by decide +kernel⟩
  · exact ⟨110, fun _ => by kernel_rfl, rfl, by decide +kernel, by decide +kernel, by decide +kernel⟩
def testsAgg : Value := .agg #[.string ⟨#[36, 101, 113]⟩, .string ⟨#[36, 101, 120, 105, 115, 116, 115]⟩, .string ⟨#[36, 103, 116]⟩, .string ⟨#[36, 103, 116, 101]⟩, .string ⟨#[36, 105, 110]⟩, .string ⟨#[36, 108, 116]⟩, .string ⟨#[36, 108, 116, 101]⟩, .string ⟨#[36, 110, 101]⟩]
set_option maxRecDepth 100000 in
theorem idx_arr : ∀ (j : Nat) (s : ByteArray), testsOf[j]? = some s → ∀ w, (Instr.index 109 (.agg #[.string ⟨#[36, 101, 113]⟩, .string ⟨#[36, 101, 120, 105, 115, 116, 115]⟩, .string ⟨#[36, 103, 116]⟩, .string ⟨#[36, 103, 116, 101]⟩, .string ⟨#[36, 105, 110]⟩, .string ⟨#[36, 108, 116]⟩, .string ⟨#[36, 108, 116, 101]⟩, .string ⟨#[36, 110, 101]⟩]) (.int .i64 (j : Int))).run Tryz.prog w = .ok (.string s) w
  | 0, s, h, _ => by injection h with h; subst h; kernel_rfl
  | 1, s, h, _ => by injection h with h; subst h; kernel_rfl
  | 2, s, h, _ => by injection h with h; subst h; kernel_rfl
  | 3, s, h, _ => by injection h with h; subst h; kernel_rfl
  | 4, s, h, _ => by injection h with h; subst h; kernel_rfl
  | 5, s, h, _ => by injection h with h; subst h; kernel_rfl
  | 6, s, h, _ => by injection h with h; subst h; kernel_rfl
  | 7, s, h, _ => by injection h with h; subst h; kernel_rfl
  | n + 8, s, h, _ => by cases h
/-- A name of a condition: which it is. -/
theorem tst_split {s : ByteArray} (h : s ∈ testsOf) : (s.toList = [36, 105, 110] ∧ (s.toList == [36, 105, 110]) = true ∧ (s.toList == [36, 101, 120, 105, 115, 116, 115]) = false ∧ ¬ s.toList = [36, 101, 120, 105, 115, 116, 115] ∧ namedI s = 8) ∨
    ((s.toList == [36, 105, 110]) = false ∧ ¬ s.toList = [36, 105, 110] ∧ (s.toList == [36, 101, 120, 105, 115, 116, 115]) = true ∧ s.toList = [36, 101, 120, 105, 115, 116, 115] ∧ namedI s = 9) ∨
    ((s.toList == [36, 105, 110]) = false ∧ ¬ s.toList = [36, 105, 110] ∧ (s.toList == [36, 101, 120, 105, 115, 116, 115]) = false ∧ ¬ s.toList = [36, 101, 120, 105, 115, 116, 115] ∧ namedI s ≠ 8 ∧ namedI s ≠ 9) := by
  simp only [testsOf, List.mem_cons, List.not_mem_nil, or_false] at h
  rcases h with rfl | rfl | rfl | rfl | rfl | rfl | rfl | rfl <;>
    first
    | exact .inr (.inr (by decide +kernel))
    | exact .inl (by decide +kernel)
    | exact .inr (.inl (by decide +kernel))
theorem leaf_field {F : Nat} {nm : ByteArray} {y : Val} (h : nm ∈ docNames.drop 2) : fieldD (F + 1) (nm, y) = if isTests y = true then manyE 0 (testF nm) y.fields else .ok (.mk 2 nm y []) := by
  obtain ⟨h1, h2, h3⟩ := docn_leaf h
  unfold fieldD
  rw [if_neg h1, if_neg (by simp [h2]), if_neg (by simp [h3])]
theorem good_tests {y : Val} (h : GoodV 4 y) : isTests y = false := by
  unfold isTests
  cases hfs : y.fields with
  | nil => rfl
  | cons f r =>
    have hn := h.2.2.2.2.2.2.1.subset (List.mem_map_of_mem (f := Prod.fst) (by rw [hfs]; exact List.mem_cons_self ..) : f.1 ∈ y.fields.map Prod.fst)
    simp only [namesOf, List.mem_cons, List.not_mem_nil, or_false] at hn
    have : pre36 f.1 = false := by rcases hn with e | e | e | e <;> rw [e] <;> decide +kernel
    simp [this]

set_option maxRecDepth 100000 in
set_option maxHeartbeats 4000000 in
theorem leaf_plain (D F : Nat) (nm : ByteArray) (y : Val) (la2 : Option Addr) (ln2 lc2 : Nat) (fa2 : Option Addr) (fn2 fc2 : Nat) (ok : Nat → Prop) (w : World) (hn : nm ∈ docNames.drop 2) (hg : GoodV 4 y) (hy : (KV (D + 2)).R w ok y [.int .i64 y.kind, .int .i64 y.int, .string y.text, .slice la2 ln2 lc2, .slice fa2 fn2 fc2]) :
    Calls Tryz.prog 58 #[.agg #[.string nm, .int .i64 y.kind, .int .i64 y.int, .string y.text, .slice la2 ln2 lc2, .slice fa2 fn2 fc2]] w (WrP (fieldD (F + 1) (nm, y)) w) := by
  rw [leaf_field hn, if_neg (by rw [good_tests hg]; decide)]
  obtain ⟨c, hix, hc, h1, h2, h0⟩ := idx_docs hn
  have hf := (KV_parts hy).2.2.2.2
  have hlen := hf.length
  have hcap := hf.cap
  have p1 : ¬ nm.toList = [36, 97, 110, 100] := by simpa using h1
  have p2 : ¬ nm.toList = [36, 111, 114] := by simpa using h2
  have p0 : ¬ nm.toList = [] := by simpa using h0
  have pc : ¬ c = 36 := by simpa using hc
  have q0 : nm.toList.isEmpty = false := by cases hq : nm.toList with
    | nil => exact (p0 hq).elim
    | cons a r => rfl
  have H := Ap.of hf
  have HG := Ap.of hg
  have HLN := Ap.of hlen
  have hk : (fn2 = 0) ∨ (0 < fn2 ∧ y.kind = 5) := by
    rcases Nat.eq_zero_or_pos fn2 with h | h
    · exact .inl h
    · refine .inr ⟨h, ?_⟩
      rcases hg.2.2.2.2.2.2.2.2.2.2.2.1 with h5 | h5
      · exact h5
      · rw [h5] at hlen; simp at hlen; omega
  clear hf hlen hg hy hn
  obtain ⟨res, hres⟩ : ∃ res : Except Int Flt, res = Except.ok (Flt.mk 2 nm y []) := ⟨_, rfl⟩
  rw [← hres]
  have HRS := Ap.of (show ∃ s, res = .ok s from ⟨_, hres⟩)
  clear hres
  rcases hk with rfl | ⟨hpos, h5⟩
  · have hlt' : ¬ (0 : Int) < ((0 : Nat) : Int) := by omega
    generalize y.int = yi at *
    generalize y.text = yt at *
    generalize y.kind = yk at *
    go_enter Tryz.func58, Tryz.ntmps58
    go_wp2_with fail
    go_loopw [57] (fun vi wr => vi = .int .i64 ((0 : Nat) : Int) ∧ Ap (Below w.heap.size w wr)) (fun _ _ => 0)
    case atStart => exact ⟨rfl, Ap.of (bel_alloc _ _)⟩
    case round =>
      obtain ⟨rfl, BL⟩ := hrel
      go_wp2_with fail
      go_ret
      exact ⟨0, rfl, .inl ⟨rfl, HRS.out⟩, BL.out⟩
  · have hlt' : (0 : Int) < (fn2 : Int) := by omega
    obtain ⟨g2, off, n0, z, la, xn, lc, fa, fn, fc, rfl, hx, hnm, hr, c0, c1, c2, c3, c4, c5⟩ := fld_cells H.out hpos
    obtain ⟨c0', hix0, hc0⟩ := idx_names (HG.out.2.2.2.2.2.2.1.subset (List.mem_map_of_mem (f := Prod.fst) (List.mem_of_getElem? hx)))
    have pc0 : ¬ c0' = 36 := by simpa using hc0
    have t5 : (y.kind == 5) = true := by simpa using h5
    have HC := Ap.of (And.intro c0 (And.intro c1 (And.intro c2 (And.intro c3 (And.intro c4 c5)))))
    have lc0 := World.block_lt_of_cell? _ _ c0
    clear hx hnm hr c0 c1 c2 c3 c4 c5 H
    generalize y.int = yi at *
    generalize y.text = yt at *
    generalize y.kind = yk at *
    subst h5
    go_enter Tryz.func58, Tryz.ntmps58
    go_wp2_with fail
    go_loopw [57] (fun vi wr => vi = .int .i64 ((0 : Nat) : Int) ∧ Ap (wr = w.alloc (.cells #[.string nm, .int .i64 5, .int .i64 yi, .string yt, .slice la2 ln2 lc2, .slice (some ⟨g2, off, none⟩) fn2 fc2] 37))) (fun _ _ => 0)
    case atStart => exact ⟨rfl, Ap.of rfl⟩
    case round =>
      obtain ⟨rfl, BL⟩ := hrel
      have hbl := bel_alloc w (.cells #[.string nm, .int .i64 5, .int .i64 yi, .string yt, .slice la2 ln2 lc2, .slice (some ⟨g2, off, none⟩) fn2 fc2] 37)
      have hw := BL.out
      subst hw
      have HBL := Ap.of hbl
      obtain ⟨e0, e1, e2, e3, e4, e5⟩ := HC.out
      rw [Nat.zero_mul, Nat.add_zero] at e0 e1 e2 e3 e4 e5
      clear hbl BL
      go_wp2_with fail
      go_ret
      exact ⟨0, rfl, .inl ⟨rfl, HRS.out⟩, bel_step HBL.out (bel_alloc _ _)⟩
theorem toList_ne {a b : ByteArray} (h : a.toList = b.toList) : a = b := by
  rw [Lib.toList_data, Lib.toList_data] at h
  cases a; cases b
  simp at h
  rw [h]
theorem any_step {s n : ByteArray} {j : Nat} (hs : testsOf[j]? = some s) : (testsOf.take (j + 1)).any (fun s => decide (s = n)) = ((testsOf.take j).any (fun s => decide (s = n)) || decide (s = n)) := take_any (fun s => decide (s = n)) hs

set_option maxRecDepth 100000 in
set_option maxHeartbeats 4000000 in
theorem leaf_conds (D : Nat) (nm : ByteArray) (y : Val) (la2 : Option Addr) (ln2 lc2 : Nat) (fa2 : Option Addr) (fn2 fc2 : Nat) (ok : Nat → Prop) (w : World) (hn : nm ∈ docNames.drop 2) (h5 : y.kind = 5) (ht : ∀ t ∈ y.fields, TstV t) (hpos : 0 < fn2) (hy : (KV (D + 2)).R w ok y [.int .i64 y.kind, .int .i64 y.int, .string y.text, .slice la2 ln2 lc2, .slice fa2 fn2 fc2]) (G : TeG w) :
    Calls Tryz.prog 58 #[.agg #[.string nm, .int .i64 y.kind, .int .i64 y.int, .string y.text, .slice la2 ln2 lc2, .slice fa2 fn2 fc2]] w (WrP (manyE 0 (testF nm) y.fields) w) := by
  obtain ⟨c, hix, hc, h1, h2, h0⟩ := idx_docs hn
  have hf := (KV_parts hy).2.2.2.2
  have hlen := hf.length
  have hcap := hf.cap
  have p1 : ¬ nm.toList = [36, 97, 110, 100] := by simpa using h1
  have p2 : ¬ nm.toList = [36, 111, 114] := by simpa using h2
  have p0 : ¬ nm.toList = [] := by simpa using h0
  have pc : ¬ c = 36 := by simpa using hc
  have q0 : nm.toList.isEmpty = false := by cases hq : nm.toList with
    | nil => exact (p0 hq).elim
    | cons a r => rfl
  have H := Ap.of hf
  have HT := Ap.of ht
  have HLN := Ap.of hlen
  have GG := Ap.of G
  have HP := Ap.of hpos
  have hres : manyE 0 (testF nm) y.fields = match mapE (testF nm) y.fields with
    | .error e => .error e
    | .ok ss => .ok (.mk 0 ⟨#[]⟩ Val.zero ss) := rfl
  have HRS := Ap.of hres
  clear hf hlen ht hy hn G hres hpos
  generalize manyE 0 (testF nm) y.fields = res at *
  generalize y.fields = xs at *
  generalize y.int = yi at *
  generalize y.text = yt at *
  generalize y.kind = yk at *
  subst h5
  go_enter Tryz.func58, Tryz.ntmps58
  go_wp2_with fail
  go_loopw [57] (fun vi wr => ∃ (k : Nat) (ss : List Flt), k ≤ fn2 ∧ vi = .int .i64 k ∧ Ap (mapE (testF nm) (xs.take k) = .ok ss) ∧ Ap (wr.heap[w.heap.size]? = some (.cells #[.string nm, .int .i64 5, .int .i64 yi, .string yt, .slice la2 ln2 lc2, .slice fa2 fn2 fc2] 37 (0, 0))) ∧ Ap (Below w.heap.size w wr)) (fun vi _ => fn2 - (intOf vi).toNat)
  case atStart => exact ⟨0, [], Nat.zero_le _, rfl, Ap.of (by simp [mapE]), Ap.of (blk_new rfl), Ap.of (bel_alloc _ _)⟩
  case round =>
    obtain ⟨k, ss, hk, rfl, HM, BB, BL⟩ := hrel
    by_cases hlt : k < fn2
    · obtain ⟨g2, off, n1, z, la, xn, lc, fa, fn, fc, rfl, hx, hnm, hr, c0, c1, c2, c3, c4, c5⟩ := fld_cells (Row.below H.out BL.out) hlt
      obtain ⟨g3, off3, n0, z0, _, _, _, _, _, _, hA, hx0, _, _, e0, _⟩ := fld_cells (Row.below H.out BL.out) HP.out
      injection hA with hA
      injection hA with hA1 hA2 _
      subst hA1 hA2
      rw [Nat.zero_mul, Nat.add_zero] at e0
      have hix0 := idx_tests (HT.out _ (List.mem_of_getElem? hx0)).1
      have HX := Ap.of hx
      have HTV := Ap.of (HT.out _ (List.mem_of_getElem? hx))
      have HLT := Ap.of hlt
      have hlt' : (k : Int) < (fn2 : Int) := by omega
      have hp' : (0 : Int) < (fn2 : Int) := by omega
      have lc0 := World.block_lt_of_cell? _ _ c0
      have tcs := (GG.out.below BL.out).tests
      have tc0 := tcs 0 _ rfl
      have tc1 := tcs 1 _ rfl
      have tc2 := tcs 2 _ rfl
      have tc3 := tcs 3 _ rfl
      have tc4 := tcs 4 _ rfl
      have tc5 := tcs 5 _ rfl
      have tc6 := tcs 6 _ rfl
      have tc7 := tcs 7 _ rfl
      have lt0 := World.block_lt_of_cell? _ _ tc0
      have cb := blk_cells BB.out
      have lb := blk_lt BB.out
      clear hx hx0 hr hnm tcs
      obtain ⟨wo, rfl⟩ : ∃ wo : World, wo = wr := ⟨_, rfl⟩
      go_wp2_with fail
      go_loop [8, 76] (fun v8 v76 => ∃ (j : Nat) (q : Bool), j ≤ 8 ∧ v76 = .int .i64 j ∧ v8 = .bool q ∧ Ap (q = (testsOf.take j).any (fun s => decide (s = n1)))) (fun _ v76 => 8 - (intOf v76).toNat)
      case atStart => exact ⟨0, false, by decide, rfl, rfl, Ap.of rfl⟩
      case round =>
        obtain ⟨j, q, hj, rfl, rfl, HQ⟩ := hrel
        by_cases hj8 : j < 8
        · obtain ⟨s, hs⟩ : ∃ s, testsOf[j]? = some s := ⟨_, List.getElem?_eq_getElem (by have : testsOf.length = 8 := rfl; omega)⟩
          have hixj := idx_arr j s hs
          have hj8' : (j : Int) < 8 := by omega
          have HS := Ap.of (any_step (n := n1) hs)
          clear hs
          cases q with
          | true =>
            go_wp2_with fail
            go_round
            case rel => exact ⟨j + 1, true, by omega, by go_num, rfl, Ap.of (by rw [HS.out, ← HQ.out]; rfl)⟩
            case measure => simp [intOf]; omega
          | false =>
            by_cases he : s.toList = n1.toList
            · have he' : (s.toList == n1.toList) = true := by simpa using he
              have HE := Ap.of (toList_ne he)
              clear he
              go_wp2_with fail
              go_round
              case rel => exact ⟨j + 1, true, by omega, by go_num, rfl, Ap.of (by rw [HS.out, ← HQ.out, HE.out]; simp)⟩
              case measure => simp [intOf]; omega
            · have he' : (s.toList == n1.toList) = false := by simpa using he
              have HE := Ap.of (show ¬ s = n1 from fun h => he (by rw [h]))
              go_wp2_with fail
              go_round
              case rel => exact ⟨j + 1, false, by omega, by go_num, rfl, Ap.of (by rw [HS.out, ← HQ.out]; simp [HE.out])⟩
              case measure => simp [intOf]; omega
        · obtain rfl : j = 8 := by omega
          have hq : q = true := by
            rw [HQ.out]
            exact List.any_eq_true.2 ⟨n1, HTV.out.1, by simp⟩
          subst hq
          have hn2 := (tstn_op HTV.out.1).1
          have HSP := tst_split HTV.out.1
          have HNX : Ap (testF nm (n1, z) = if (namedI n1 = 8 ∧ z.kind ≠ 4) ∨ (namedI n1 = 9 ∧ z.kind ≠ 1) then .error 7 else .ok (.mk (namedI n1) nm z [])) := Ap.of (by unfold testF; rw [if_neg (by omega)])
          clear hn2
          rcases HSP with ⟨s1, s2, s3, s4, s5x⟩ | ⟨s1, s2, s3, s4, s5x⟩ | ⟨s1, s2, s3, s4, s5x⟩
          · by_cases hz : z.kind = 4
            · have hz' : (z.kind == 4) = true := by simpa using hz
              have HOKR := Ap.of (show testF nm (n1, z) = .ok (.mk (namedI n1) nm z []) by rw [HNX.out, if_neg (by rintro (⟨e1, e2⟩ | ⟨e1, e2⟩) <;> first | exact e2 hz | exact absurd (s5x.symm.trans e1) (by decide))])
              clear s5x
              go_wp2_with fail
              go_roundw
              case rel => exact ⟨k + 1, ss ++ [.mk (namedI n1) nm z []], by have := HLT.out; omega, by go_num, Ap.of (by
                have hx := HX.out
                have hkl : k < xs.length := (List.getElem?_eq_some_iff.1 hx).1
                rw [List.getElem?_eq_getElem hkl] at hx
                injection hx with hx
                rw [List.take_succ_eq_append_getElem hkl, hx]
                exact mapE_next HM.out HOKR.out), Ap.of (blk_old BB.out), Ap.of (bel_stepB BL.out BL.out.size (bel_alloc _ _))⟩
              case measure => have := HLT.out; simp [intOf]; omega
            · have hz' : (z.kind == 4) = false := by simpa using hz
              have HER := Ap.of (show testF nm (n1, z) = .error 7 by rw [HNX.out, if_pos (by first | exact .inl ⟨s5x, hz⟩ | exact .inr ⟨s5x, hz⟩)])
              clear s5x
              go_wp2_with fail
              go_ret
              exact ⟨7, rfl, .inr ⟨by decide, by
                have hx := HX.out
                have hkl : k < xs.length := (List.getElem?_eq_some_iff.1 hx).1
                have hsplit : xs = xs.take k ++ (n1, z) :: xs.drop (k + 1) := by
                  rw [List.getElem?_eq_getElem hkl] at hx
                  injection hx with hx
                  rw [← hx, ← List.drop_eq_getElem_cons hkl, List.take_append_drop]
                rw [HRS.out, hsplit, mapE_err _ HM.out HER.out]⟩, bel_stepB BL.out BL.out.size (bel_alloc _ _)⟩
          · by_cases hz : z.kind = 1
            · have hz' : (z.kind == 1) = true := by simpa using hz
              have HOKR := Ap.of (show testF nm (n1, z) = .ok (.mk (namedI n1) nm z []) by rw [HNX.out, if_neg (by rintro (⟨e1, e2⟩ | ⟨e1, e2⟩) <;> first | exact e2 hz | exact absurd (s5x.symm.trans e1) (by decide))])
              clear s5x
              go_wp2_with fail
              go_roundw
              case rel => exact ⟨k + 1, ss ++ [.mk (namedI n1) nm z []], by have := HLT.out; omega, by go_num, Ap.of (by
                have hx := HX.out
                have hkl : k < xs.length := (List.getElem?_eq_some_iff.1 hx).1
                rw [List.getElem?_eq_getElem hkl] at hx
                injection hx with hx
                rw [List.take_succ_eq_append_getElem hkl, hx]
                exact mapE_next HM.out HOKR.out), Ap.of (blk_old BB.out), Ap.of (bel_stepB BL.out BL.out.size (bel_alloc _ _))⟩
              case measure => have := HLT.out; simp [intOf]; omega
            · have hz' : (z.kind == 1) = false := by simpa using hz
              have HER := Ap.of (show testF nm (n1, z) = .error 7 by rw [HNX.out, if_pos (by first | exact .inl ⟨s5x, hz⟩ | exact .inr ⟨s5x, hz⟩)])
              clear s5x
              go_wp2_with fail
              go_ret
              exact ⟨7, rfl, .inr ⟨by decide, by
                have hx := HX.out
                have hkl : k < xs.length := (List.getElem?_eq_some_iff.1 hx).1
                have hsplit : xs = xs.take k ++ (n1, z) :: xs.drop (k + 1) := by
                  rw [List.getElem?_eq_getElem hkl] at hx
                  injection hx with hx
                  rw [← hx, ← List.drop_eq_getElem_cons hkl, List.take_append_drop]
                rw [HRS.out, hsplit, mapE_err _ HM.out HER.out]⟩, bel_stepB BL.out BL.out.size (bel_alloc _ _)⟩
          · have HOKR := Ap.of (show testF nm (n1, z) = .ok (.mk (namedI n1) nm z []) by rw [HNX.out, if_neg (by rintro (⟨e1, _⟩ | ⟨e1, _⟩) <;> first | exact s5x.1 e1 | exact s5x.2 e1)])
            clear s5x
            go_wp2_with fail
            go_roundw
            case rel => exact ⟨k + 1, ss ++ [.mk (namedI n1) nm z []], by have := HLT.out; omega, by go_num, Ap.of (by
              have hx := HX.out
              have hkl : k < xs.length := (List.getElem?_eq_some_iff.1 hx).1
              rw [List.getElem?_eq_getElem hkl] at hx
              injection hx with hx
              rw [List.take_succ_eq_append_getElem hkl, hx]
              exact mapE_next HM.out HOKR.out), Ap.of (blk_old BB.out), Ap.of (bel_stepB BL.out BL.out.size (bel_alloc _ _))⟩
            case measure => have := HLT.out; simp [intOf]; omega
    · obtain rfl : k = fn2 := by omega
      have hlt' : ¬ (k : Int) < (k : Int) := by omega
      go_wp2_with fail
      go_ret
      exact ⟨0, rfl, .inl ⟨rfl, by
        have h := HM.out
        rw [← HLN.out, List.take_length] at h
        exact ⟨_, by rw [HRS.out, h]⟩⟩, BL.out⟩
end Go.Proofs.YtlomieopppndeaaGreatDoor
