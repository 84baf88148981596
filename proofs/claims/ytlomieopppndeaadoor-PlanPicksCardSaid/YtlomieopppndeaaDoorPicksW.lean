import Derived.Test.YtlomieopppndeaaDoorPlanBoundsW
import Derived.Deep.RegionHeld3
/- roundelaylaw17.specs: the indexes that bytes name. -/
namespace Go.Proofs.YtlomieopppndeaaDoor
open Go.RowKit
attribute [local go_sem] max2_int min2_int

theorem Tryd.infoSp : (Tryd.prog.info? 46).map (fun i => (i.zero, i.size, i.bytes)) = some (some (.agg #[.string ⟨#[]⟩, .string ⟨#[]⟩, .bool false]), 3, 40) := by kernel_rfl
def dgK (k : Nat) : ByteArray := ⟨#[48 + k.toUInt8]⟩
def nmK (k : Nat) : ByteArray := ⟨#[105]⟩ ++ dgK k
theorem wrapK (k : Nat) (hk : k < 6) : IntKind.i64.wrap ((k : Int) + 1) = (k : Int) + 1 := by
  rcases (show k = 0 ∨ k = 1 ∨ k = 2 ∨ k = 3 ∨ k = 4 ∨ k = 5 by omega) with rfl | rfl | rfl | rfl | rfl | rfl <;> decide
theorem digit (k : Nat) (hk : k < 6) : ByteArray.extract ⟨#[48, 49, 50, 51, 52, 53, 54, 55, 56, 57]⟩ k (k + 1) = dgK k := by
  rcases (show k = 0 ∨ k = 1 ∨ k = 2 ∨ k = 3 ∨ k = 4 ∨ k = 5 by omega) with rfl | rfl | rfl | rfl | rfl | rfl <;> decide
theorem nm_ne {k : Nat} (hk : k < 6) : nmK k ≠ ⟨#[]⟩ := by
  rcases (show k = 0 ∨ k = 1 ∨ k = 2 ∨ k = 3 ∨ k = 4 ∨ k = 5 by omega) with rfl | rfl | rfl | rfl | rfl | rfl <;> decide
theorem nm_size {k : Nat} (hk : k < 6) : (nmK k).size = 2 := by
  rcases (show k = 0 ∨ k = 1 ∨ k = 2 ∨ k = 3 ∨ k = 4 ∨ k = 5 by omega) with rfl | rfl | rfl | rfl | rfl | rfl <;> decide
theorem path_size {p : ByteArray} (h : p ∈ pathsOf) : p.size ≤ 16 := by
  simp only [pathsOf, List.mem_cons, List.not_mem_nil, or_false] at h
  rcases h with rfl | rfl | rfl | rfl | rfl | rfl <;> decide
def SpcP (w : World) (e : Ending) (w' : World) : Prop :=
  ∃ (A : Option Addr) (m c : Nat) (xs : List (ByteArray × ByteArray)), e = .returned (.slice A m c) ∧ Row KSp w' (fun j => w.heap.size ≤ j ∧ j < w'.heap.size) A m c xs ∧ m ≤ 6 ∧ (∀ s ∈ xs, s.1 ≠ ⟨#[]⟩) ∧ Below w.heap.size w w'
set_option maxRecDepth 100000 in
set_option maxHeartbeats 4000000 in
theorem specs_calls (A : Option Addr) (n c : Nat) (w : World) (ok : Nat → Prop) (hok : ∀ k, ok k → k < w.heap.size) (hB : Bs w ok A n c) (G : PbG w) :
    Calls Tryd.prog 13 #[.slice A n c] w (SpcP w) := by
  obtain ⟨N, hN⟩ : ∃ N : Nat, (if 6 < (n : Int) then 6 else (n : Int)) = (N : Int) := ⟨if 6 < n then 6 else n, by split <;> split <;> omega⟩
  have hNl : N ≤ n := by split at hN <;> omega
  have hN6 : N ≤ 6 := by split at hN <;> omega
  have hrun := cutTo A n c N hB.1 hB.2.1 hB.2.2.1 hNl
  have HB := Ap.of (hB.take hNl)
  have hn1 := hB.1
  have hn2 := hB.2.1
  have HOK := Ap.of hok
  have GG := Ap.of G
  clear hok G hB
  obtain ⟨i0, hi, hzz⟩ := Option.map_eq_some_iff.1 Tryd.infoSp
  simp only [Prod.mk.injEq] at hzz
  have HI := Ap.of (And.intro hi hzz)
  clear hi hzz
  unfold SpcP
  go_enter Tryd.func13, Tryd.ntmps13
  go_wp2_with fail
  go_loopw [3, 12] (fun v3 vi wr => ∃ (k : Nat) (A0 : Option Addr) (c0 : Nat) (xs : List (ByteArray × ByteArray)), k ≤ N ∧ vi = .int .i64 k ∧ v3 = .slice A0 k c0 ∧ Ap (xs.length = k) ∧ Ap (∀ s ∈ xs, s.1 ≠ ⟨#[]⟩) ∧ Ap (Own KSp 46 w.heap.size wr (fun j => w.heap.size ≤ j) (.slice A0 k c0) xs) ∧ Ap (Below w.heap.size w wr)) (fun _ vi _ => N - (intOf vi).toNat)
  case atStart => exact ⟨0, none, 0, [], Nat.zero_le _, rfl, rfl, Ap.of rfl, Ap.of (fun s h => by cases h), Ap.of (Own.nil _ _ _ _ _), Ap.of (Below.refl _ _)⟩
  case round =>
    obtain ⟨k, A0, c0, xs, hk, rfl, rfl, HXL, HNE, O, BL⟩ := hrel
    by_cases hlt : k < N
    · obtain ⟨g, off, x, rfl, hx0, hx1, hcell⟩ : ∃ (g off : Nat) (x : Int), A = some ⟨g, off, none⟩ ∧ 0 ≤ x ∧ x ≤ 255 ∧ wr.cell? ⟨g, off + k, none⟩ = some (.int .u8 x) := by
        rcases (HB.out.below BL.out).2.2.2 with h | ⟨g, off, e, _, _, f⟩
        · omega
        · obtain ⟨x, h1, h2, h3⟩ := f k hlt
          exact ⟨g, off, x, e, h2, h3, h1⟩
      obtain ⟨K, hK, hK6⟩ : ∃ K : Nat, x % 6 = (K : Int) ∧ K < 6 := ⟨(x % 6).toNat, by omega, by omega⟩
      have hKb : (K : Int) < 6 := by omega
      obtain ⟨p, hp⟩ : ∃ p, pathsOf[K]? = some p := ⟨_, List.getElem?_eq_getElem (by have : pathsOf.length = 6 := rfl; omega)⟩
      have cp := (GG.out.below BL.out).pa K p hp
      have lp := World.block_lt_of_cell? _ _ cp
      have lx := World.block_lt_of_cell? _ _ hcell
      have HP := Ap.of (path_size (List.mem_of_getElem? hp))
      have hd := digit k (by omega)
      have hdz : (dgK k).size = 1 := rfl
      have hwr := wrapK k (by omega)
      have hd2 : ((k : Int) + 1).toNat = k + 1 := by omega
      have hd3 : ByteArray.extract ⟨#[48, 49, 50, 51, 52, 53, 54, 55, 56, 57]⟩ k ((k : Int) + 1).toNat = dgK k := by rw [hd2]; exact hd
      have hd4 : 0 ≤ (k : Int) + 1 ∧ (k : Int) + 1 ≤ 10 := by omega
      have hd5 : (k : Int) ≤ (k : Int) + 1 := by omega
      have hKt : x.tmod 6 = (K : Int) := by rw [Int.tmod_eq_emod_of_nonneg hx0, hK]
      have hK0 : (0 : Int) ≤ (K : Int) := by omega
      have hk6 : (k : Int) < 6 := by omega
      have hlt' : (k : Int) < (N : Int) := by omega
      have HK := Ap.of (show k < 6 by omega)
      have HLT := Ap.of hlt
      clear hp
      have LT := Ap.of O.out.lt
      have OB := Ap.of O.out.1
      have hbs := BL.out.size
      have X1 := Ap.of (Own.below O.out (bel_alloc wr (.cells #[.string (nmK k), .string p, .bool false] 46)))
      have X3 : Ap (KSp.R (wr.alloc (.cells #[.string (nmK k), .string p, .bool false] 46)) (fun j => wr.heap.size ≤ j) (nmK k, p) [.string (nmK k), .string p, .bool false]) := Ap.of ⟨rfl, by show (nmK k).size ≤ maxLen; rw [nm_size HK.out]; unfold maxLen; decide, Nat.le_trans HP.out (by unfold maxLen; decide)⟩
      clear O
      go_upto_region 5 with fail
      go_region_law (refine step_append (W := (wr.alloc (.cells #[.string (nmK k), .string p, .bool false] 46)).drew) (K := KSp) (gx := wr.heap.size) (v := .slice A0 k c0) (tx := 46) (e := 46) (B := w.heap.size) (ok := fun j => w.heap.size ≤ j) (okx := fun j => wr.heap.size ≤ j) (xs := xs) (x := (nmK k, p)) (cs := [.string (nmK k), .string p, .bool false]) rfl (.tmp 17) (.tmp 28) 41 i0 _ 40 rfl Tryd.underlying41 HI.out.1 HI.out.2.1 HI.out.2.2.1 HI.out.2.2.2 rfl (Nat.succ_pos 2) rfl rfl (X1.out.below (Below.refl _ _).drew) (blk_new (by simp)) (Knd.below X3.out (Below.refl _ _).drew) (fun j hj => ⟨by omega, fun he => by have := (LT.out j he.symm).2; omega⟩) (by intro j hj; simp at hj; omega) (by rw [HXL.out]; omega) (by rw [HXL.out]; omega) (by simp; omega) ?_; intro v5 w5 hO5 honly; (have O5 := Ap.of hO5); (have ON5 := Ap.of honly); clear hO5 honly; obtain ⟨A5, c5, hv5, _, _⟩ := O5.out.slice; rw [show (xs ++ [(nmK k, p)]).length = k + 1 from by simp [HXL.out]] at hv5; subst hv5)
      all_goals
        (go_wp2_with fail
         go_roundw
         case rel =>
           have hb0 : Below w.heap.size w ((wr.alloc (.cells #[.string (nmK k), .string p, .bool false] 46)).drew) := (BL.out.alloc (by omega) _).drew
           have bl5 := bel_only hb0 (by simp; omega) ON5.out (fun j he => OB.out j he)
           refine ⟨k + 1, A5, c5, xs ++ [(nmK k, p)], by have := HLT.out; omega, by go_num, rfl, Ap.of (by simp [HXL.out]), Ap.of ?_, O5, Ap.of bl5⟩
           intro s hs
           rcases List.mem_append.1 hs with hs | hs
           · exact HNE.out s hs
           · rw [List.mem_singleton.1 hs]; exact nm_ne HK.out
         case measure => have := HLT.out; simp [intOf]; omega)
    · obtain rfl : k = N := by omega
      obtain ⟨A6, c6, hv6, hrow⟩ := O.out.row
      rw [HXL.out] at hv6 hrow
      injection hv6 with hv6 _ hv7
      subst hv6 hv7
      have HROW := Ap.of hrow.bound
      clear hrow
      go_wp2_with fail
      go_ret
      exact ⟨_, _, _, rfl, xs, HROW.out, hN6, fun a b h => HNE.out (a, b) h, BL.out⟩
end Go.Proofs.YtlomieopppndeaaDoor
/- PlanPicks' walk: the pick, reckoned anew. -/
namespace Go.Proofs.YtlomieopppndeaaDoor
open Go.RowKit

def selA (b : ByteArray → Bnd) (l : List (ByteArray × ByteArray)) : Bool × Pln := match l.find? (fun s => (b s.2).2.2.1) with
  | some s => (true, plnOf b s)
  | none => (false, pln0)
def stepS (t : Bool) (s : Bool × Pln) (x : Pln) : Bool × Pln := if t = true ∧ s.1 = false then (true, x) else s
def selB (b : ByteArray → Bnd) (l : List (ByteArray × ByteArray)) (k : Nat) : Bool × Pln := if (selA b l).1 = true then selA b l else match (l.take k).find? (fun s => (b s.2).2.2.2) with
  | some s => (true, plnOf b s)
  | none => (false, pln0)
theorem selA_next (b : ByteArray → Bnd) {l : List (ByteArray × ByteArray)} {k : Nat} {x : ByteArray × ByteArray} (hx : l[k]? = some x) : selA b (l.take (k + 1)) = stepS (b x.2).2.2.1 (selA b (l.take k)) (plnOf b x) := by
  unfold selA stepS
  cases h : (l.take k).find? (fun s => (b s.2).2.2.1) with
  | some y =>
    rw [find_keep _ h]
    exact (if_neg (fun h => by cases h.2)).symm
  | none =>
    rw [find_next _ hx h]
    by_cases h2 : (b x.2).2.2.1 = true
    · rw [if_pos h2, if_pos ⟨h2, rfl⟩]
    · rw [if_neg h2, if_neg (fun h => h2 h.1)]
theorem selB_next (b : ByteArray → Bnd) {l : List (ByteArray × ByteArray)} {k : Nat} {x : ByteArray × ByteArray} (hx : l[k]? = some x) : selB b l (k + 1) = stepS (b x.2).2.2.2 (selB b l k) (plnOf b x) := by
  unfold selB stepS
  by_cases ha : (selA b l).1 = true
  · rw [if_pos ha, if_pos ha, if_neg (fun h => by rw [ha] at h; cases h.2)]
  · rw [if_neg ha, if_neg ha]
    cases h : (l.take k).find? (fun s => (b s.2).2.2.2) with
    | some y =>
      rw [find_keep _ h]
      exact (if_neg (fun h => by cases h.2)).symm
    | none =>
      rw [find_next _ hx h]
      by_cases h2 : (b x.2).2.2.2 = true
      · rw [if_pos h2, if_pos ⟨h2, rfl⟩]
      · rw [if_neg h2, if_neg (fun h => h2 h.1)]
theorem selB_zero (b : ByteArray → Bnd) (l : List (ByteArray × ByteArray)) : selB b l 0 = selA b l := by
  unfold selB
  by_cases ha : (selA b l).1 = true
  · rw [if_pos ha]
  · rw [if_neg ha]
    unfold selA at ha ⊢
    cases h : l.find? (fun s => (b s.2).2.2.1) with
    | some y => rw [h] at ha; exact (ha rfl).elim
    | none => rfl
theorem selB_all (b : ByteArray → Bnd) (l : List (ByteArray × ByteArray)) : (selB b l l.length).2 = pickD b l := by
  unfold selB pickD firstP
  rw [List.take_length]
  unfold selA
  cases h : l.find? (fun s => (b s.2).2.2.1) with
  | some y => rfl
  | none =>
    rw [if_neg (show ¬ ((false, pln0) : Bool × Pln).1 = true from fun h => by cases h)]
    cases l.find? (fun s => (b s.2).2.2.2) <;> rfl
set_option maxRecDepth 100000 in
set_option maxHeartbeats 16000000 in
theorem picks_calls (A0 : Option Addr) (n0 c0 : Nat) (A1 : Option Addr) (n1 c1 : Nat) (w : World) (b0 : Bs w (fun k => k < w.heap.size) A0 n0 c0) (b1 : Bs w (fun k => k < w.heap.size) A1 n1 c1) (G : PbG w) :
    Calls Tryd.prog 4 #[.slice A0 n0 c0, .slice A1 n1 c1] w fun e w' => e = .returned (.bool true) ∧ Below w.heap.size w w' := by
  have B0 := Ap.of b0
  have B1 := Ap.of b1
  have GG := Ap.of G
  clear b0 b1 G
  go_enter Tryd.func4, Tryd.ntmps4
  go_wp2_with fail
  refine (pawake_calls w GG.out.pl.fil.par).mono ?_
  rintro e w1 ⟨rfl, hb⟩
  have HB1 := Ap.of hb
  have G1 := Ap.of (GG.out.below hb)
  clear hb
  go_wp2_with fail
  refine (of17_calls A0 n0 c0 _ w1 (fun k hk => Nat.lt_of_lt_of_le hk HB1.out.size) (B0.out.below HB1.out) G1.out.pl).mono ?_
  rintro e w2 ⟨f, la, ln, lc, fa, fn, fc, sa, sn, sc, is, rfl, hb, hok⟩
  have hbU := bel_step hb (bel_alloc w2 (.cells #[.int .i64 f.op, .string f.path, .int .i64 f.val.kind, .int .i64 f.val.int, .string f.val.text, .slice la ln lc, .slice fa fn fc, .slice sa sn sc] 32))
  have HBU := Ap.of (bel_step HB1.out hbU)
  have GU := Ap.of (G1.out.below hbU)
  have BF := Ap.of (blk_new (w := w2) (k := w2.heap.size) (o := .cells #[.int .i64 f.op, .string f.path, .int .i64 f.val.kind, .int .i64 f.val.int, .string f.val.text, .slice la ln lc, .slice fa fn fc, .slice sa sn sc] 32) rfl)
  have HOK := Ap.of hok
  clear hb hok hbU
  cases is with
  | false =>
    go_wp2_with fail
    go_ret
    exact ⟨rfl, HBU.out⟩
  | true =>
    obtain ⟨v, hdv, hpv, hR⟩ := HOK.out rfl
    have HR := Ap.of (Knd.below hR (bel_alloc w2 (.cells #[.int .i64 f.op, .string f.path, .int .i64 f.val.kind, .int .i64 f.val.int, .string f.val.text, .slice la ln lc, .slice fa fn fc, .slice sa sn sc] 32)))
    have HS := Ap.of (SubsN_le (by decide : 9 ≤ 13) (doc_subs 3 11 v f hdv hpv))
    have HC := Ap.of (doc_conds 3 11 v f hdv hpv 13)
    have G5 := Ap.of (blk_lt BF.out)
    clear hdv hpv hR HOK
    go_upto_region 6 with fail
    generalize w2.alloc (.cells #[.int .i64 f.op, .string f.path, .int .i64 f.val.kind, .int .i64 f.val.int, .string f.val.text, .slice la ln lc, .slice fa fn fc, .slice sa sn sc] 32) = U0 at *
    generalize w2.heap.size = g5 at *
    go_wp2_with fail
    refine (specs_calls A1 n1 c1 U0 _ (fun k hk => Nat.lt_of_lt_of_le hk HBU.out.size) (B1.out.below HBU.out) GU.out).mono ?_
    rintro e w3 ⟨A, m, c, sps, rfl, hrow, hm6, hne, hb⟩
    have hb3 := bel_step hb (bel_alloc w3 (.cells #[.string ⟨#[]⟩, .string ⟨#[]⟩, .string ⟨#[]⟩, .bool false] 44))
    have HB3 := Ap.of (bel_step HBU.out hb3)
    have BF3 := Ap.of (blk_bel BF.out hb3)
    have BP3 := Ap.of (blk_new (w := w3) (k := w3.heap.size) (o := .cells #[.string ⟨#[]⟩, .string ⟨#[]⟩, .string ⟨#[]⟩, .bool false] 44) rfl)
    have HL3 := Ap.of ((hrow.below (bel_alloc w3 (.cells #[.string ⟨#[]⟩, .string ⟨#[]⟩, .string ⟨#[]⟩, .bool false] 44))).mono (ok' := fun j => j < w3.heap.size) (fun _ h => h.2))
    have HFR := Ap.of ((KF 11 13).mono (ok' := fun j => j < w3.heap.size) (fun j hj => Nat.lt_of_lt_of_le hj.2 hb.size) (Knd.below ((KF 11 13).bound HR.out) hb3))
    have G58 := Ap.of (show g5 < w3.heap.size from Nat.lt_of_lt_of_le G5.out hb.size)
    have HPK := Ap.of (fun W (A : Option Addr) (n c : Nat) (l : List (ByteArray × ByteArray)) (hW : Below w.heap.size w W) (hn : ∀ s ∈ l, s.1 ≠ ⟨#[]⟩) (hR : (KF 11 13).R W (fun _ => True) f [.int .i64 f.op, .string f.path, .int .i64 f.val.kind, .int .i64 f.val.int, .string f.val.text, .slice la ln lc, .slice fa fn fc, .slice sa sn sc]) (hr : Row KSp W (fun _ => True) A n c l) => pick_calls 13 11 f la ln lc fa fn fc sa sn sc A n c l (fun k => k < W.heap.size) W (fun k hk => hk) (by decide) (by decide) HS.out HC.out hn (GG.out.below hW).pl.fil.par hR (hr.bound.mono (fun _ h => h.2)))
    have HBC := Ap.of (fun (W : World) (p : ByteArray) (hW : Below w.heap.size w W) (hR : (KF 11 13).R W (fun _ => True) f [.int .i64 f.op, .string f.path, .int .i64 f.val.kind, .int .i64 f.val.int, .string f.val.text, .slice la ln lc, .slice fa fn fc, .slice sa sn sc]) => lbounds_calls 13 11 f la ln lc fa fn fc sa sn sc p W (by decide) (by decide) HS.out HC.out (GG.out.below hW).pl.fil.par hR)
    have GW8 := Ap.of (show w.heap.size ≤ w3.heap.size from Nat.le_trans HBU.out.size hb.size)
    have HNE := Ap.of hne
    have HLEN := Ap.of hrow.length
    have hcap := hrow.cap
    clear hrow hne hb hb3 BF HR HS HC G5 GU
    obtain ⟨b, hb⟩ : ∃ b : ByteArray → Bnd, b = fun p => boundsD 11 13 f p := ⟨_, rfl⟩
    have HBF := Ap.of hb
    rw [← hb] at HPK
    clear hb
    unfold PlnP at HPK
    unfold BndP at HBC
    go_upto_region 10 with fail
    generalize w3.alloc (.cells #[.string ⟨#[]⟩, .string ⟨#[]⟩, .string ⟨#[]⟩, .bool false] 44) = U at *
    generalize w3.heap.size = g8 at *
    go_loopw [9, 34] (fun v9 vi wr => ∃ (k : Nat) (fb : Bool) (q : Pln), k ≤ m ∧ vi = .int .i64 k ∧ v9 = .bool fb ∧ Ap (selA b (sps.take k) = (fb, q)) ∧ Ap (wr.heap[g8]? = some (.cells #[.string q.name, .string q.fro, .string q.til, .bool false] 44 (0, 0))) ∧ Ap (Only (fun j => j = g8) U wr) ∧ Ap (Below w.heap.size w wr)) (fun _ vi _ => m - (intOf vi).toNat)
    case atStart => exact ⟨0, false, pln0, Nat.zero_le _, rfl, rfl, Ap.of rfl, BP3, Ap.of (Only.refl _ _), HB3⟩
    case round =>
      obtain ⟨k, fb, ⟨q1, q2, q3⟩, hk, rfl, rfl, HQ, HP, HO, BL⟩ := hrel
      by_cases hlt : k < m
      · obtain ⟨g2, off, nm, p, rfl, hx, c0, c1, c2⟩ := sp_cells (HL3.out.only HO.out (fun j hj he => by omega)) hlt
        have hba := bel_alloc wr (.cells #[.string nm, .string p, .bool false] 46)
        have HX := Ap.of hx
        have HE := Ap.of (selA_next b hx)
        rw [HQ.out] at HE
        have BFW := Ap.of (blk_bel (blk_only BF3.out HO.out (show ¬ g5 = g8 by have := G58.out; omega)) hba)
        have HC := Ap.of (HBC.out (wr.alloc (.cells #[.string nm, .string p, .bool false] 46)) p (bel_stepB BL.out BL.out.size hba) ((KF 11 13).mono (fun _ _ => trivial) (Knd.below (Knd.only HFR.out HO.out (fun j hj he => by omega)) hba)))
        have hbp : boundsD 11 13 f p = b p := by rw [HBF.out]
        rw [hbp] at HC
        have HP1 := Ap.of (blk_bel HP.out hba)
        have HO1 := Ap.of (HO.out.alloc (.cells #[.string nm, .string p, .bool false] 46))
        have HB1 := Ap.of (bel_stepB BL.out BL.out.size hba)
        have BC := Ap.of (blk_new (w := wr) (k := wr.heap.size) (o := .cells #[.string nm, .string p, .bool false] 46) rfl)
        have HLT := Ap.of hlt
        have hlt' : (k : Int) < (m : Int) := by omega
        have lc0 := World.block_lt_of_cell? _ _ c0
        have cf := blk_cells BFW.out
        have lf := blk_lt BFW.out
        clear hx hba hbp
        have HPL : Ap (plnOf b (nm, p) = ⟨nm, (b p).1, (b p).2.1⟩) := Ap.of rfl
        rw [HPL.out] at HE
        generalize hxp : b p = x at *
        obtain ⟨x1, x2, x3, x4⟩ := x
        clear hxp HPL
        go_wp2_with fail
        refine HC.out.mono ?_
        rintro en w5 ⟨rfl, hb⟩
        have hbU := bel_step hb (bel_alloc w5 (.cells #[.string x1, .string x2, .bool false] 37))
        have HP5 := Ap.of (blk_bel HP1.out hbU)
        have HO5 := Ap.of (HO1.out.bel hbU)
        have HB5 := Ap.of (bel_stepB HB1.out HB1.out.size hbU)
        have BC5 := Ap.of (blk_bel BC.out hbU)
        have BX5 := Ap.of (blk_new (w := w5) (k := w5.heap.size) (o := .cells #[.string x1, .string x2, .bool false] 37) rfl)
        clear hb hbU HC HP1 HO1 HB1 BC cf lf c0 c1 c2 lc0
        go_upto_region 13 with fail
        generalize w5.alloc (.cells #[.string x1, .string x2, .bool false] 37) = V at *
        generalize w5.heap.size = g8r at *
        have cr := blk_cells HP5.out
        have fr := blk_free HP5.out
        have lr := blk_lt HP5.out
        have cc := blk_cells BC5.out
        have lcc := blk_lt BC5.out
        have cx := blk_cells BX5.out
        have lx := blk_lt BX5.out
        by_cases hst : x3 = true ∧ fb = false
        · obtain ⟨rfl, rfl⟩ := hst
          have HE2 := Ap.of (show selA b (sps.take (k + 1)) = (true, ⟨nm, x1, x2⟩) from HE.out.trans (if_pos ⟨rfl, rfl⟩))
          have hs := only4 V g8 (.string nm) (.string x1) (.string x2) (.bool false)
          have HP6 := Ap.of (blk_set4 HP5.out (.string nm) (.string x1) (.string x2) (.bool false))
          have HO6 := Ap.of (HO5.out.trans hs (fun i hi => .inl hi))
          have HB6 := Ap.of (bel_only HB5.out HB5.out.size hs (fun j hj => by have := GW8.out; omega))
          clear hs HE
          go_wp2_with fail
          go_roundw
          case rel => exact ⟨k + 1, true, ⟨nm, x1, x2⟩, by have := HLT.out; omega, by go_num, rfl, HE2, HP6, HO6, HB6⟩
          case measure => have := HLT.out; simp [intOf]; omega
        · have HE2 := Ap.of (show selA b (sps.take (k + 1)) = (fb, ⟨q1, q2, q3⟩) from HE.out.trans (if_neg hst))
          clear HE
          cases x3 <;> cases fb
          all_goals
            first
              | exact absurd ⟨rfl, rfl⟩ hst
              | (go_wp2_with fail
                 go_roundw
                 case rel => exact ⟨k + 1, _, ⟨q1, q2, q3⟩, by have := HLT.out; omega, by go_num, rfl, HE2, HP5, HO5, HB5⟩
                 case measure => have := HLT.out; simp [intOf]; omega)
      · obtain rfl : m = k := by omega
        have hlt' : ¬ (m : Int) < (m : Int) := by omega
        have HQ0 := Ap.of (show selB b sps 0 = (fb, ⟨q1, q2, q3⟩) by
          have h := HQ.out
          rw [← HLEN.out, List.take_length] at h
          rw [selB_zero]
          exact h)
        have HP0 := Ap.of HP.out
        have BL0 := Ap.of BL.out
        have HL4 := Ap.of (HL3.out.only HO.out (fun j hj he => by omega))
        have HFR4 := Ap.of (Knd.only HFR.out HO.out (fun j hj he => by omega))
        have BF4 := Ap.of (blk_only BF3.out HO.out (show ¬ g5 = g8 by have := G58.out; omega))
        clear HQ HP BL HO
        obtain ⟨U2, hU2⟩ : ∃ V : World, V = wr := ⟨_, rfl⟩
        subst hU2
        go_upto_region 17 with fail
        go_loopw [9, 58] (fun v9 vi wr => ∃ (k : Nat) (fb : Bool) (q : Pln), k ≤ m ∧ vi = .int .i64 k ∧ v9 = .bool fb ∧ Ap (selB b sps k = (fb, q)) ∧ Ap (wr.heap[g8]? = some (.cells #[.string q.name, .string q.fro, .string q.til, .bool false] 44 (0, 0))) ∧ Ap (Only (fun j => j = g8) U2 wr) ∧ Ap (Below w.heap.size w wr)) (fun _ vi _ => m - (intOf vi).toNat)
        case atStart => exact ⟨0, fb, ⟨q1, q2, q3⟩, Nat.zero_le _, rfl, rfl, HQ0, HP0, Ap.of (Only.refl _ _), BL0⟩
        case round =>
          obtain ⟨k, fb, ⟨q1, q2, q3⟩, hk, rfl, rfl, HQ, HP, HO, BL⟩ := hrel
          by_cases hlt : k < m
          · obtain ⟨g2, off, nm, p, rfl, hx, c0, c1, c2⟩ := sp_cells (HL4.out.only HO.out (fun j hj he => by omega)) hlt
            have hba := bel_alloc wr (.cells #[.string nm, .string p, .bool false] 46)
            have HX := Ap.of hx
            have HE := Ap.of (selB_next b hx)
            rw [HQ.out] at HE
            have BFW := Ap.of (blk_bel (blk_only BF4.out HO.out (show ¬ g5 = g8 by have := G58.out; omega)) hba)
            have HC := Ap.of (HBC.out (wr.alloc (.cells #[.string nm, .string p, .bool false] 46)) p (bel_stepB BL.out BL.out.size hba) ((KF 11 13).mono (fun _ _ => trivial) (Knd.below (Knd.only HFR4.out HO.out (fun j hj he => by omega)) hba)))
            have hbp : boundsD 11 13 f p = b p := by rw [HBF.out]
            rw [hbp] at HC
            have HP1 := Ap.of (blk_bel HP.out hba)
            have HO1 := Ap.of (HO.out.alloc (.cells #[.string nm, .string p, .bool false] 46))
            have HB1 := Ap.of (bel_stepB BL.out BL.out.size hba)
            have BC := Ap.of (blk_new (w := wr) (k := wr.heap.size) (o := .cells #[.string nm, .string p, .bool false] 46) rfl)
            have HLT := Ap.of hlt
            have hlt' : (k : Int) < (m : Int) := by omega
            have lc0 := World.block_lt_of_cell? _ _ c0
            have cf := blk_cells BFW.out
            have lf := blk_lt BFW.out
            clear hx hba hbp
            have HPL : Ap (plnOf b (nm, p) = ⟨nm, (b p).1, (b p).2.1⟩) := Ap.of rfl
            rw [HPL.out] at HE
            generalize hxp : b p = x at *
            obtain ⟨x1, x2, x3, x4⟩ := x
            clear hxp HPL
            go_wp2_with fail
            refine HC.out.mono ?_
            rintro en w5 ⟨rfl, hb⟩
            have hbU := bel_step hb (bel_alloc w5 (.cells #[.string x1, .string x2, .bool false] 37))
            have HP5 := Ap.of (blk_bel HP1.out hbU)
            have HO5 := Ap.of (HO1.out.bel hbU)
            have HB5 := Ap.of (bel_stepB HB1.out HB1.out.size hbU)
            have BC5 := Ap.of (blk_bel BC.out hbU)
            have BX5 := Ap.of (blk_new (w := w5) (k := w5.heap.size) (o := .cells #[.string x1, .string x2, .bool false] 37) rfl)
            clear hb hbU HC HP1 HO1 HB1 BC cf lf c0 c1 c2 lc0
            go_upto_region 20 with fail
            generalize w5.alloc (.cells #[.string x1, .string x2, .bool false] 37) = V at *
            generalize w5.heap.size = g8r at *
            have cr := blk_cells HP5.out
            have fr := blk_free HP5.out
            have lr := blk_lt HP5.out
            have cc := blk_cells BC5.out
            have lcc := blk_lt BC5.out
            have cx := blk_cells BX5.out
            have lx := blk_lt BX5.out
            by_cases hst : x4 = true ∧ fb = false
            · obtain ⟨rfl, rfl⟩ := hst
              have HE2 := Ap.of (show selB b sps (k + 1) = (true, ⟨nm, x1, x2⟩) from HE.out.trans (if_pos ⟨rfl, rfl⟩))
              have hs := only4 V g8 (.string nm) (.string x1) (.string x2) (.bool false)
              have HP6 := Ap.of (blk_set4 HP5.out (.string nm) (.string x1) (.string x2) (.bool false))
              have HO6 := Ap.of (HO5.out.trans hs (fun i hi => .inl hi))
              have HB6 := Ap.of (bel_only HB5.out HB5.out.size hs (fun j hj => by have := GW8.out; omega))
              clear hs HE
              go_wp2_with fail
              go_roundw
              case rel => exact ⟨k + 1, true, ⟨nm, x1, x2⟩, by have := HLT.out; omega, by go_num, rfl, HE2, HP6, HO6, HB6⟩
              case measure => have := HLT.out; simp [intOf]; omega
            · have HE2 := Ap.of (show selB b sps (k + 1) = (fb, ⟨q1, q2, q3⟩) from HE.out.trans (if_neg hst))
              clear HE
              cases x4 <;> cases fb
              all_goals
                first
                  | exact absurd ⟨rfl, rfl⟩ hst
                  | (go_wp2_with fail
                     go_roundw
                     case rel => exact ⟨k + 1, _, ⟨q1, q2, q3⟩, by have := HLT.out; omega, by go_num, rfl, HE2, HP5, HO5, HB5⟩
                     case measure => have := HLT.out; simp [intOf]; omega)
          · obtain rfl : k = m := by omega
            have hlt' : ¬ (k : Int) < (k : Int) := by omega
            have HPD := Ap.of (show pickD b sps = ⟨q1, q2, q3⟩ by
              have h := HQ.out
              rw [← HLEN.out] at h
              have h2 := selB_all b sps
              rw [h] at h2
              exact h2.symm)
            have HRT := Ap.of ((HL4.out.only HO.out (fun j hj he => by omega)).mono (ok' := fun _ => True) (fun _ _ => trivial))
            have HFT := Ap.of ((KF 11 13).mono (ok' := fun _ => True) (fun _ _ => trivial) (Knd.only HFR4.out HO.out (fun j hj he => by omega)))
            have BFT := Ap.of (blk_only BF4.out HO.out (show ¬ g5 = g8 by have := G58.out; omega))
            obtain ⟨V, hV⟩ : ∃ V : World, V = wr := ⟨_, rfl⟩
            subst hV
            have HPA := Ap.of (show ∀ (W : World), Below V.heap.size V W → Calls Tryd.prog 14 #[.agg #[.int .i64 f.op, .string f.path, .int .i64 f.val.kind, .int .i64 f.val.int, .string f.val.text, .slice la ln lc, .slice fa fn fc, .slice sa sn sc], .slice A k c] W (fun e w' => e = .returned (.agg #[.string q1, .string q2, .string q3, .bool false]) ∧ Below W.heap.size W w') from fun W hW => by
              have h := HPK.out W A k c sps (bel_stepB BL.out BL.out.size hW) HNE.out (Knd.below HFT.out hW) (HRT.out.below hW)
              rw [HPD.out] at h
              exact h)
            have hg0 := gdPlan
            have hq0 : ∀ w, (Op.equalIn 10000 44 (.agg #[.string q1, .string q2, .string q3, .bool false]) (.agg #[.string q1, .string q2, .string q3, .bool false])).run Tryd.prog w = .ok true w := fun w => by rw [eqPlan]; simp
            have hks : ∀ W, Below V.heap.size V W → (Below V.heap.size V W ∧ W.cell? ⟨g5, 0, none⟩ = some (.int .i64 f.op) ∧ W.cell? ⟨g5, 1, none⟩ = some (.string f.path) ∧ W.cell? ⟨g5, 2, none⟩ = some (.int .i64 f.val.kind) ∧ W.cell? ⟨g5, 3, none⟩ = some (.int .i64 f.val.int) ∧ W.cell? ⟨g5, 4, none⟩ = some (.string f.val.text) ∧ W.cell? ⟨g5, 5, none⟩ = some (.slice la ln lc) ∧ W.cell? ⟨g5, 6, none⟩ = some (.slice fa fn fc) ∧ W.cell? ⟨g5, 7, none⟩ = some (.slice sa sn sc) ∧ W.cell? ⟨g8, 0, none⟩ = some (.string q1) ∧ W.cell? ⟨g8, 1, none⟩ = some (.string q2) ∧ W.cell? ⟨g8, 2, none⟩ = some (.string q3) ∧ W.cell? ⟨g8, 3, none⟩ = some (.bool false)) := by
              intro W ho
              have e7 := blk_cells (blk_bel BFT.out ho)
              have eq := blk_cells (blk_bel HP.out ho)
              exact ⟨ho, e7 0, e7 1, e7 2, e7 3, e7 4, e7 5, e7 6, e7 7, eq 0, eq 1, eq 2, eq 3⟩
            have KS := Ap.of hks
            clear hks HPK HBC HRT HFT HQ HO HPD
            go_upto_region 23 with fail
            go_region_held3 (fun W => Below V.heap.size V W ∧ W.cell? ⟨g5, 0, none⟩ = some (.int .i64 f.op) ∧ W.cell? ⟨g5, 1, none⟩ = some (.string f.path) ∧ W.cell? ⟨g5, 2, none⟩ = some (.int .i64 f.val.kind) ∧ W.cell? ⟨g5, 3, none⟩ = some (.int .i64 f.val.int) ∧ W.cell? ⟨g5, 4, none⟩ = some (.string f.val.text) ∧ W.cell? ⟨g5, 5, none⟩ = some (.slice la ln lc) ∧ W.cell? ⟨g5, 6, none⟩ = some (.slice fa fn fc) ∧ W.cell? ⟨g5, 7, none⟩ = some (.slice sa sn sc) ∧ W.cell? ⟨g8, 0, none⟩ = some (.string q1) ∧ W.cell? ⟨g8, 1, none⟩ = some (.string q2) ∧ W.cell? ⟨g8, 2, none⟩ = some (.string q3) ∧ W.cell? ⟨g8, 3, none⟩ = some (.bool false))
              (first
                | with_reducible assumption
                | (with_reducible (refine KS.out _ ?_; exact Below.refl _ _))
                | (with_reducible (refine KS.out _ ?_; apply Below.drew; exact Below.refl _ _))
                | (with_reducible (refine KS.out _ ?_; apply bel_stepB _ _ hb3; exact And.left (by assumption); exact (Below.size (And.left (by assumption)))))
                | (with_reducible (refine KS.out _ ?_; apply Below.alloc; exact (And.left (by assumption)); exact (Below.size (And.left (by assumption))))))
              (first
                | (go_at_call 14; (with_reducible apply Calls.mono); ((with_reducible apply HPA.out); (exact And.left (by assumption))); rintro en w9 ⟨rfl, hb3⟩))
            all_goals
              have HBL := Ap.of (show Below V.heap.size V w9 from And.left (by assumption))
              have HBE := Ap.of (bel_stepB BL.out BL.out.size HBL.out)
              go_wp2_with fail
              go_ret
              exact ⟨rfl, HBE.out⟩
end Go.Proofs.YtlomieopppndeaaDoor
