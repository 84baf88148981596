/- The value of ONE byte, by name: roundelaylaw03.Made and Of, roundelaylaw16.small. -/
import Derived.Test.YtlomieopppndeaaGreatDoorGen2
import Derived.Test.YtlomieopppndeaaGreatDoorOf
import Derived.Test.YtlomieopppndeaaGreatDoorSmall
import Derived.Deep.RegionLaw
namespace Go.Proofs.YtlomieopppndeaaGreatDoor
open Go.RowKit

def oneI (c : Int) : Int := if c % 8 = 0 then -9223372036854775808 else if c % 8 = 1 then 9223372036854775807 else if c % 8 = 2 then -c else c / 8 % 6
def bitO (m : Int) (k : Nat) : Bool := (m / 2 ^ k).tmod 2 == 1
def objO (m : Int) : Nat → List Fld
  | 0 => []
  | k + 1 => if bitO m k then objO m k ++ [((namesOf[k]?).getD ⟨#[]⟩, Val.zero)] else objO m k
def oneV (c : Int) : Val :=
  if c % 6 = 1 then .mk 1 (c / 6 % 2) ⟨#[]⟩ [] [] else if c % 6 = 2 then .mk 2 (oneI (c / 6)) ⟨#[]⟩ [] [] else
  if c % 6 = 3 then .mk 3 0 ((wordsOf[(c / 6 % 8).toNat]?).getD ⟨#[]⟩) [] [] else if c % 6 = 4 then .mk 4 0 ⟨#[]⟩ (List.replicate (c / 6 % 4).toNat Val.zero) [] else
  if c % 6 = 5 then .mk 5 0 ⟨#[]⟩ [] (objO (c / 6) 4) else Val.zero

set_option maxHeartbeats 400000 in
theorem one_fn (c : Int) (h0 : 0 ≤ c) (h1 : c ≤ 255) (w : World) :
    Calls Tryz.prog 70 #[.int .u8 c] w fun e w' => ∃ n, e = .returned (.int .i64 n) ∧ n = oneI c ∧ w' = w := by
  have e0 : (0 : Int) ≤ c / 8 := by omega
  have hr : c % 8 = 0 ∨ c % 8 = 1 ∨ c % 8 = 2 ∨ (c % 8 ≠ 0 ∧ c % 8 ≠ 1 ∧ c % 8 ≠ 2) := by omega
  rcases hr with hr | hr | hr | ⟨hr, hr1, hr2⟩
  · have hv := Ap.of (show -9223372036854775808 = oneI c by unfold oneI; rw [if_pos hr])
    go_enter Tryz.func70, Tryz.ntmps70
    go_wp2
    go_ret
    exact ⟨_, rfl, hv.out, rfl⟩
  · have hv := Ap.of (show 9223372036854775807 = oneI c by unfold oneI; rw [if_neg (by omega), if_pos hr])
    have t0 : (c % 8 == 0) = false := by simp; omega
    have t1 : (c % 8 == 1) = true := by simp; omega
    go_enter Tryz.func70, Tryz.ntmps70
    go_wp2
    go_ret
    exact ⟨_, rfl, hv.out, rfl⟩
  · have hv := Ap.of (show -c = oneI c by unfold oneI; rw [if_neg (by omega), if_neg (by omega), if_pos hr])
    have t0 : (c % 8 == 0) = false := by simp; omega
    have t1 : (c % 8 == 1) = false := by simp; omega
    have t2 : (c % 8 == 2) = true := by simp; omega
    go_enter Tryz.func70, Tryz.ntmps70
    go_wp2
    go_ret
    exact ⟨_, rfl, hv.out, rfl⟩
  · have hv := Ap.of (show c / 8 % 6 = oneI c by unfold oneI; rw [if_neg (by omega), if_neg (by omega), if_neg (by omega)])
    have t0 : (c % 8 == 0) = false := by simp; omega
    have t1 : (c % 8 == 1) = false := by simp; omega
    have t2 : (c % 8 == 2) = false := by simp; omega
    go_enter Tryz.func70, Tryz.ntmps70
    go_wp2
    go_ret
    exact ⟨_, rfl, hv.out, rfl⟩

/-- What Made tells of a byte or of none. -/
def MadeO (D : Nat) (y : Val) (w : World) (e : Ending) (w' : World) : Prop :=
  ∃ (x : Val) (la : Option Addr) (ln lc : Nat) (fa : Option Addr) (fn fc : Nat) (A : Option Addr) (c : Nat), x = y ∧
    e = .returned (.tuple #[.agg #[.int .i64 x.kind, .int .i64 x.int, .string x.text, .slice la ln lc, .slice fa fn fc], .slice A 0 c]) ∧
    (KV (D + 1)).R w' (fun k => w.heap.size ≤ k) x [.int .i64 x.kind, .int .i64 x.int, .string x.text, .slice la ln lc, .slice fa fn fc] ∧ Below w.heap.size w w'

section
variable (D : Nat) (g off cap : Nat) (c : Int) (w : World)
set_option maxRecDepth 100000 in
set_option maxHeartbeats 4000000 in
theorem made0 (deep : Int) (A : Option Addr) (cp : Nat) :
    Calls Tryz.prog 41 #[.slice A 0 cp, .int .i64 deep] w (MadeO D Val.zero w) := by
  go_enter Tryz.func41, Tryz.ntmps41
  go_wp2
  exact bodyPost_ret (v := .tuple #[.agg #[.int .i64 0, .int .i64 0, .string ⟨#[]⟩, .slice none 0 0, .slice none 0 0], .slice none 0 0]) (by simp [results, Tryz.results41, go_sem]) rfl
    ⟨.zero, none, 0, 0, none, 0, 0, none, 0, rfl, rfl, KV_zero _ _ _, bel_alloc _ _⟩

theorem cut1o (hn : 1 ≤ cap) (hc : cap ≤ 9223372036854775807) : ∃ A' c', (∀ w : World, (Instr.slice 22 (.slice (some ⟨g, off, none⟩) 1 cap) (some (.int .i64 1)) none none).run Tryz.prog w = .ok (.slice A' 0 c') w) := by
  obtain ⟨A', c', h, _⟩ := cut1 g off 0 cap (by omega) hc
  exact ⟨A', c', h⟩

set_option maxRecDepth 100000 in
set_option maxHeartbeats 4000000 in
theorem made1_text (h0 : 0 ≤ c) (h1 : c ≤ 255) (hr : c % 6 = 3) (hL : Laid w) (hn : 1 ≤ cap) (hc : cap ≤ 9223372036854775807) (hg : g < w.heap.size) (hcell : w.cell? ⟨g, off, none⟩ = some (.int .u8 c)) :
    Calls Tryz.prog 41 #[.slice (some ⟨g, off, none⟩) 1 cap, .int .i64 4] w (MadeO 3 (oneV c) w) := by
  have e0 : (0 : Int) ≤ c / 6 := by omega
  have e1 : c / 6 ≤ 42 := by omega
  obtain ⟨s, hs⟩ : ∃ s, wordsOf[(c / 6 % 8).toNat]? = some s := ⟨_, List.getElem?_eq_getElem (by have : wordsOf.length = 8 := rfl; omega)⟩
  have hw := hL.words _ s hs
  have hlo : 1 < w.heap.size := Nat.lt_of_lt_of_le (by decide) hL.lo
  have HV := Ap.of (show Val.mk 3 0 s [] [] = oneV c by unfold oneV; rw [if_neg (by omega), if_neg (by omega), if_pos hr, hs]; rfl)
  have HS := Ap.of (words_small (List.mem_of_getElem? hs))
  obtain ⟨A', c', hrun⟩ := cut1o g off cap hn hc
  clear hs hL
  go_enter Tryz.func41, Tryz.ntmps41
  go_wp2
  exact bodyPost_ret (v := .tuple #[.agg #[.int .i64 3, .int .i64 0, .string s, .slice none 0 0, .slice none 0 0], .slice A' 0 c']) (by simp [results, Tryz.results41, go_sem]) rfl
    ⟨.mk 3 0 s [] [], none, 0, 0, none, 0, 0, A', c', HV.out, rfl, flat_R 3 _ _ 3 0 s (inI64_small (by decide) (by decide)) (inI64_small (by decide) (by decide)) (by have := HS.out; unfold maxLen; omega), bel_alloc _ _⟩

set_option maxRecDepth 100000 in
set_option maxHeartbeats 4000000 in
theorem made1_bool (h0 : 0 ≤ c) (h1 : c ≤ 255) (hr : c % 6 = 1) (hn : 1 ≤ cap) (hc : cap ≤ 9223372036854775807) (hg : g < w.heap.size) (hcell : w.cell? ⟨g, off, none⟩ = some (.int .u8 c)) :
    Calls Tryz.prog 41 #[.slice (some ⟨g, off, none⟩) 1 cap, .int .i64 4] w (MadeO 3 (oneV c) w) := by
  have e0 : (0 : Int) ≤ c / 6 := by omega
  have e1 : c / 6 ≤ 42 := by omega
  have HV := Ap.of (show Val.mk 1 (c / 6 % 2) ⟨#[]⟩ [] [] = oneV c by unfold oneV; rw [if_pos hr])
  obtain ⟨A', c', hrun⟩ := cut1o g off cap hn hc
  go_enter Tryz.func41, Tryz.ntmps41
  go_wp2
  exact bodyPost_ret (v := .tuple #[.agg #[.int .i64 1, .int .i64 (c / 6 % 2), .string ⟨#[]⟩, .slice none 0 0, .slice none 0 0], .slice A' 0 c']) (by simp [results, Tryz.results41, go_sem]) rfl
    ⟨.mk 1 (c / 6 % 2) ⟨#[]⟩ [] [], none, 0, 0, none, 0, 0, A', c', HV.out, rfl, flat_R 3 _ _ 1 _ _ (inI64_small (by decide) (by decide)) (inI64_small (by omega) (by omega)) (by unfold maxLen; decide), bel_alloc _ _⟩

set_option maxRecDepth 100000 in
set_option maxHeartbeats 4000000 in
theorem made1_int (h0 : 0 ≤ c) (h1 : c ≤ 255) (hr : c % 6 = 2) (hn : 1 ≤ cap) (hc : cap ≤ 9223372036854775807) (hg : g < w.heap.size) (hcell : w.cell? ⟨g, off, none⟩ = some (.int .u8 c)) :
    Calls Tryz.prog 41 #[.slice (some ⟨g, off, none⟩) 1 cap, .int .i64 4] w (MadeO 3 (oneV c) w) := by
  have e0 : (0 : Int) ≤ c / 6 := by omega
  have e1 : c / 6 ≤ 42 := by omega
  have HV := Ap.of (show Val.mk 2 (oneI (c / 6)) ⟨#[]⟩ [] [] = oneV c by unfold oneV; rw [if_neg (by omega), if_pos hr])
  have HM := Ap.of (show inI64 (oneI (c / 6)) by unfold inI64 oneI; (repeat' split) <;> omega)
  obtain ⟨A', c', hrun⟩ := cut1o g off cap hn hc
  go_enter Tryz.func41, Tryz.ntmps41
  go_wp2_with fail
  refine (one_fn (c / 6) e0 (by omega) _).mono ?_
  rintro e w1 ⟨m, rfl, hm, rfl⟩
  have HE := Ap.of hm
  clear hm
  go_wp2_with fail
  exact bodyPost_ret (v := .tuple #[.agg #[.int .i64 2, .int .i64 m, .string ⟨#[]⟩, .slice none 0 0, .slice none 0 0], .slice A' 0 c']) (by simp [results, Tryz.results41, go_sem]) rfl
    ⟨.mk 2 m ⟨#[]⟩ [] [], none, 0, 0, none, 0, 0, A', c', by rw [HE.out]; exact HV.out, rfl, flat_R 3 _ _ 2 _ _ (inI64_small (by decide) (by decide)) (by rw [HE.out]; exact HM.out) (by unfold maxLen; decide), bel_alloc _ _⟩

set_option maxRecDepth 100000 in
set_option maxHeartbeats 4000000 in
theorem made1_null (h0 : 0 ≤ c) (h1 : c ≤ 255) (hr : c % 6 = 0) (hn : 1 ≤ cap) (hc : cap ≤ 9223372036854775807) (hg : g < w.heap.size) (hcell : w.cell? ⟨g, off, none⟩ = some (.int .u8 c)) :
    Calls Tryz.prog 41 #[.slice (some ⟨g, off, none⟩) 1 cap, .int .i64 4] w (MadeO 3 (oneV c) w) := by
  have e0 : (0 : Int) ≤ c / 6 := by omega
  have e1 : c / 6 ≤ 42 := by omega
  have HV := Ap.of (show Val.zero = oneV c by unfold oneV; rw [if_neg (by omega), if_neg (by omega), if_neg (by omega), if_neg (by omega), if_neg (by omega)])
  obtain ⟨A', c', hrun⟩ := cut1o g off cap hn hc
  go_enter Tryz.func41, Tryz.ntmps41
  go_wp2
  exact bodyPost_ret (v := .tuple #[.agg #[.int .i64 0, .int .i64 0, .string ⟨#[]⟩, .slice none 0 0, .slice none 0 0], .slice A' 0 c']) (by simp [results, Tryz.results41, go_sem]) rfl
    ⟨.zero, none, 0, 0, none, 0, 0, A', c', HV.out, rfl, KV_zero _ _ _, bel_alloc _ _⟩

set_option maxRecDepth 100000 in
set_option maxHeartbeats 4000000 in
theorem made1_list (h0 : 0 ≤ c) (h1 : c ≤ 255) (hr : c % 6 = 4) (hn : 1 ≤ cap) (hc : cap ≤ 9223372036854775807) (hg : g < w.heap.size) (hcell : w.cell? ⟨g, off, none⟩ = some (.int .u8 c)) :
    Calls Tryz.prog 41 #[.slice (some ⟨g, off, none⟩) 1 cap, .int .i64 4] w (MadeO 3 (oneV c) w) := by
  have e0 : (0 : Int) ≤ c / 6 := by omega
  have e1 : c / 6 ≤ 42 := by omega
  obtain ⟨N, hN⟩ : ∃ N : Nat, c / 6 % 4 = (N : Int) := ⟨(c / 6 % 4).toNat, by omega⟩
  have hN3 : N ≤ 3 := by omega
  have HV := Ap.of (show Val.mk 4 0 ⟨#[]⟩ (List.replicate N Val.zero) [] = oneV c by unfold oneV; rw [if_neg (by omega), if_neg (by omega), if_neg (by omega), if_pos hr, hN]; rfl)
  obtain ⟨A', c', hrun⟩ := cut1o g off cap hn hc
  have t1 : (c % 6 == 1) = false := by simp; omega
  have t2 : (c % 6 == 2) = false := by simp; omega
  have t3 : (c % 6 == 3) = false := by simp; omega
  have t4 : (c % 6 == 4) = true := by simp; omega
  clear hr
  obtain ⟨i0, hi, hzz⟩ := Option.map_eq_some_iff.1 Tryz.infoV
  simp only [Prod.mk.injEq] at hzz
  have HI := Ap.of (And.intro hi hzz)
  clear hi hzz
  go_enter Tryz.func41, Tryz.ntmps41
  go_wp2_with fail
  go_loopw [0, 9] (fun vb vi wr => ∃ (k : Nat) (A : Option Addr) (c : Nat) (la : Option Addr) (lc : Nat) (xs : List Val), k ≤ N ∧ vi = .int .i64 k ∧ vb = .slice A 0 c ∧ Ap (xs = List.replicate k Val.zero) ∧
    Ap (wr.heap[w.heap.size]? = some (.cells #[.int .i64 0, .int .i64 0, .string ⟨#[]⟩, .slice none 0 0, .slice none 0 0] 28 (0, 0))) ∧ Ap (wr.heap[w.heap.size + 1]? = some (.cells #[.int .i64 4, .int .i64 0, .string ⟨#[]⟩, .slice la k lc, .slice none 0 0] 28 (0, 0))) ∧
    Ap (Own (KV 3) 28 w.heap.size wr (fun j => w.heap.size + 2 ≤ j) (.slice la k lc) xs) ∧ Ap (Below w.heap.size w wr)) (fun _ vi _ => N - (intOf vi).toNat)
  case atStart =>
    refine ⟨0, A', c', none, 0, [], by omega, rfl, rfl, Ap.of rfl, Ap.of (blk_old (blk_new rfl)), Ap.of (blk_new (by simp)), Ap.of (Own.nil _ _ _ _ _), Ap.of (bel_step (bel_alloc _ _) (bel_alloc _ _))⟩
  case round =>
    obtain ⟨k, A, cp, la, lc, xs, hk, rfl, rfl, HXS, B4, B8, O, BL⟩ := hrel
    have hxl : xs.length = k := by rw [HXS.out]; simp
    clear hrun
    by_cases hlt : k < N
    · go_wp2_with fail
      refine (made0 2 _ _ A cp).mono ?_
      rintro e w3 ⟨x, xa, xn, xc, ya, yn, yc, A2, c2, hz, rfl, hx, hbl⟩
      have HZ := Ap.of hz
      have bk4 := blk_bel B4.out hbl
      have bk8 := blk_bel B8.out hbl
      have O3 := Ap.of (O.out.below hbl)
      have BL3 := Ap.of (bel_stepB BL.out BL.out.size hbl)
      have HX := Ap.of hx
      have WS : Ap (w.heap.size + 2 ≤ wr.heap.size) := Ap.of (blk_lt B8.out)
      have LT := Ap.of O.out.lt
      have OB := Ap.of O.out.1
      have c8 := blk_cells bk8
      have f8 := blk_free bk8
      have h8 : w.heap.size + 1 < w3.heap.size := blk_lt bk8
      have Bk4 := Ap.of bk4
      have Bk8 := Ap.of bk8
      have HXL := Ap.of hxl
      clear B4 B8 O hx hbl bk4 bk8 hxl hz
      go_wp2_with (at_builtin; refine wp_append (K := KV 3) (tx := 28) (e := 28) (B := w.heap.size) (ok := fun j => w.heap.size + 2 ≤ j) (okx := fun j => wr.heap.size ≤ j) (xs := xs) (x := x) (cs := [.int .i64 x.kind, .int .i64 x.int, .string x.text, .slice xa xn xc, .slice ya yn yc]) rfl _ _ 25 i0 _ 80 rfl Tryz.underlying25 HI.out.1 HI.out.2.1 HI.out.2.2.1 HI.out.2.2.2 rfl (Nat.succ_pos 4) rfl rfl ?a1 ?a2 ?a3 ?a4 ?a5 ?a6 ?a7 ?a8 ?_)
      case a1 => exact (O3.out.below (bel_alloc _ _)).below (bel_alloc _ _)
      case a2 => exact blk_new (by simp)
      case a3 => exact Knd.below (Knd.below HX.out (bel_alloc _ _)) (bel_alloc _ _)
      case a4 => exact fun j hj => ⟨by have := WS.out; omega, fun he => by have := (LT.out j he.symm).2; omega⟩
      case a5 => intro j hj; have := h8; simp at hj; omega
      case a6 => rw [HXL.out]; omega
      case a7 => rw [HXL.out]; omega
      case a8 => have := h8; simp; omega
      intro v5 w5 hO5 honly
      obtain ⟨A5, c5, hv5, _, _⟩ := hO5.slice
      rw [show (xs ++ [x]).length = k + 1 from by simp [HXL.out]] at hv5
      subst hv5
      have hn4 : ∀ j, j < w.heap.size + 2 → ¬ ((Value.slice la k lc).ownBlock = some j) := fun j hj he => by have := OB.out j he; omega
      have b4 := blk_only (blk_old (blk_old Bk4.out)) honly (hn4 _ (by omega))
      have b8 := blk_only (blk_old (blk_old Bk8.out)) honly (hn4 _ (by omega))
      have BL5 := Ap.of (bel_only (bel_stepB (bel_stepB BL3.out (by omega) (bel_alloc _ _)) (by simp; omega) (bel_alloc _ _)) (by simp; omega) honly (fun j he => (LT.out j he).1))
      have O5 := Ap.of hO5
      have Bk4 := Ap.of b4
      have Bk8 := Ap.of b8
      have c8 := blk_cells b8
      have f8 := blk_free b8
      clear b4 b8 hO5 honly
      go_wp2_with fail
      go_roundw
      case rel =>
        have hs := Only.setCell w5 ⟨w.heap.size + 1, 3, none⟩ (.slice A5 (k + 1) c5)
        refine ⟨k + 1, A2, c2, A5, c5, xs ++ [x], by omega, by go_num, rfl, Ap.of (by rw [HXS.out, HZ.out, List.replicate_succ']), Ap.of (blk_only Bk4.out hs (by simp)), Ap.of ?_, Ap.of (O5.out.only hs (fun j hj he => by simp at he; omega)), Ap.of (bel_only BL5.out BL5.out.size hs (fun j he => by simp at he; omega))⟩
        simpa using blk_set Bk8.out 3 (.slice A5 (k + 1) c5)
      case measure => simp [intOf]; omega
    · obtain rfl : k = N := by omega
      have c4 := blk_cells B4.out
      have f4 := blk_free B4.out
      have c8 := blk_cells B8.out
      have h8 := blk_lt B8.out
      obtain ⟨A6, c6, hv6, hrow⟩ := O.out.row
      rw [hxl] at hv6 hrow
      injection hv6 with hv6 _ hv7
      subst hv6 hv7
      have HROW := Ap.of hrow
      have HXL := Ap.of hxl
      clear hrow hxl
      go_wp2_with fail
      have hs := only5 wr w.heap.size (.int .i64 4) (.int .i64 0) (.string ⟨#[]⟩) (.slice la k lc) (.slice none 0 0)
      exact bodyPost_ret (v := .tuple #[.agg #[.int .i64 4, .int .i64 0, .string ⟨#[]⟩, .slice la k lc, .slice none 0 0], .slice A 0 cp]) (by simp [results, Tryz.results41, go_sem, c4]) rfl
        ⟨.mk 4 0 ⟨#[]⟩ xs [], la, k, lc, none, 0, 0, A, cp, by rw [HXS.out]; exact HV.out, rfl, ⟨la, k, lc, none, 0, 0, rfl, i64_4, i64_0, empty_small, (HROW.out.only hs (fun j hj he => by omega)).mono (fun j hj => by omega), Row.nil _ _ _⟩,
          bel_only BL.out BL.out.size hs (fun j he => by omega)⟩

set_option maxRecDepth 100000 in
set_option maxHeartbeats 4000000 in
theorem made1_obj (h0 : 0 ≤ c) (h1 : c ≤ 255) (hr : c % 6 = 5) (hL : Laid w) (hn : 1 ≤ cap) (hc : cap ≤ 9223372036854775807) (hg : g < w.heap.size) (hcell : w.cell? ⟨g, off, none⟩ = some (.int .u8 c)) :
    Calls Tryz.prog 41 #[.slice (some ⟨g, off, none⟩) 1 cap, .int .i64 4] w (MadeO 3 (oneV c) w) := by
  have e0 : (0 : Int) ≤ c / 6 := by omega
  have e1 : c / 6 ≤ 42 := by omega
  have HV := Ap.of (show Val.mk 5 0 ⟨#[]⟩ [] (objO (c / 6) 4) = oneV c by unfold oneV; rw [if_neg (by omega), if_neg (by omega), if_neg (by omega), if_neg (by omega), if_pos hr])
  obtain ⟨A', c', hrun⟩ := cut1o g off cap hn hc
  have HL := Ap.of hL
  have t1 : (c % 6 == 1) = false := by simp; omega
  have t2 : (c % 6 == 2) = false := by simp; omega
  have t3 : (c % 6 == 3) = false := by simp; omega
  have t4 : (c % 6 == 4) = false := by simp; omega
  have t6 : (c % 6 == 5) = true := by simp; omega
  clear hL hr
  obtain ⟨i0, hi, hzz⟩ := Option.map_eq_some_iff.1 Tryz.infoF
  simp only [Prod.mk.injEq] at hzz
  have HI := Ap.of (And.intro hi hzz)
  clear hi hzz
  go_enter Tryz.func41, Tryz.ntmps41
  go_wp2_with fail
  go_loopw [0, 95] (fun vb vi wr => ∃ (k : Nat) (A : Option Addr) (cp : Nat) (la : Option Addr) (ln lc : Nat) (xs : List Fld), k ≤ 4 ∧ vi = .int .i64 k ∧ vb = .slice A 0 cp ∧ Ap (xs.length = ln) ∧ ln ≤ k ∧ Ap (xs = objO (c / 6) k) ∧
    Ap (wr.heap[w.heap.size]? = some (.cells #[.int .i64 0, .int .i64 0, .string ⟨#[]⟩, .slice none 0 0, .slice none 0 0] 28 (0, 0))) ∧ Ap (wr.heap[w.heap.size + 1]? = some (.cells #[.int .i64 5, .int .i64 0, .string ⟨#[]⟩, .slice none 0 0, .slice la ln lc] 28 (0, 0))) ∧
    Ap (Own (KFld (KV 3)) 37 w.heap.size wr (fun j => w.heap.size + 2 ≤ j) (.slice la ln lc) xs) ∧ Ap (Below w.heap.size w wr)) (fun _ vi _ => 4 - (intOf vi).toNat)
  case atStart =>
    refine ⟨0, A', c', none, 0, 0, [], by omega, rfl, rfl, Ap.of rfl, by omega, Ap.of rfl, Ap.of (blk_old (blk_new rfl)), Ap.of (blk_new (by simp)), Ap.of (Own.nil _ _ _ _ _), Ap.of (bel_step (bel_alloc _ _) (bel_alloc _ _))⟩
  case round =>
    obtain ⟨k, A, cp, la, ln, lc, xs, hk, rfl, rfl, HXL, hln, HXS, B4, B8, O, BL⟩ := hrel
    clear hrun
    have hk5 : k = 0 ∨ k = 1 ∨ k = 2 ∨ k = 3 ∨ k = 4 := by omega
    have HK5 := Ap.of hk5
    clear hk5
    by_cases hlt : k < 4
    · go_wp2_with fail
      · have HBIT : Ap (bitO (c / 6) k = true) := Ap.of (by unfold bitO; assumption)
        refine (made0 2 _ _ A cp).mono ?_
        rintro e w3 ⟨x, xa, xn, xc, ya, yn, yc, A2, c2, hz, rfl, hx, hbl⟩
        have HZ := Ap.of hz
        have bk4 := blk_bel B4.out hbl
        have bk8 := blk_bel B8.out hbl
        have O3 := Ap.of (O.out.below hbl)
        have BL3 := Ap.of (bel_stepB BL.out BL.out.size hbl)
        have HX := Ap.of hx
        have WS : Ap (w.heap.size + 2 ≤ wr.heap.size) := Ap.of (blk_lt B8.out)
        have LT := Ap.of O.out.lt
        have OB := Ap.of O.out.1
        have c8 := blk_cells bk8
        have f8 := blk_free bk8
        have h8 : w.heap.size + 1 < w3.heap.size := blk_lt bk8
        have h9 : w.heap.size < w3.heap.size := by omega
        have h10 : w.heap.size + 1 < w3.heap.size + 1 := by omega
        have Bk4 := Ap.of bk4
        have Bk8 := Ap.of bk8
        obtain ⟨s, hs⟩ : ∃ s, namesOf[k]? = some s := ⟨_, List.getElem?_eq_getElem (by have : namesOf.length = 4 := rfl; omega)⟩
        have hL3 := HL.out.only (Only.of_below (BL3.out.mono (Nat.le_refl _)) (fun _ => False)) (fun _ _ hf => hf)
        have hnm := hL3.names k s hs
        have hlo : 2 < w3.heap.size := Nat.lt_of_lt_of_le (by decide) hL3.lo
        have HS := Ap.of hs
        clear B4 B8 O hx hbl bk4 bk8 hL3 hs hz
        go_wp2_with fail
        have X1 := Ap.of (Own.below (Own.below O3.out (bel_alloc w3 (.cells #[.int .i64 x.kind, .int .i64 x.int, .string x.text, .slice xa xn xc, .slice ya yn yc] 28))) (bel_alloc (w3.alloc (.cells #[.int .i64 x.kind, .int .i64 x.int, .string x.text, .slice xa xn xc, .slice ya yn yc] 28)) (.cells #[.string s, .int .i64 x.kind, .int .i64 x.int, .string x.text, .slice xa xn xc, .slice ya yn yc] 37)))
        have X3 : Ap ((KFld (KV 3)).R ((w3.alloc (.cells #[.int .i64 x.kind, .int .i64 x.int, .string x.text, .slice xa xn xc, .slice ya yn yc] 28)).alloc (.cells #[.string s, .int .i64 x.kind, .int .i64 x.int, .string x.text, .slice xa xn xc, .slice ya yn yc] 37)) (fun j => wr.heap.size ≤ j) (s, x) [.string s, .int .i64 x.kind, .int .i64 x.int, .string x.text, .slice xa xn xc, .slice ya yn yc]) :=
          Ap.of ⟨_, rfl, by have := names_small (List.mem_of_getElem? HS.out); show s.size ≤ maxLen; unfold maxLen; omega, Knd.below (Knd.below HX.out (bel_alloc _ _)) (bel_alloc _ _)⟩
        go_region_law (refine step_append (W := (((w3.alloc (.cells #[.int .i64 x.kind, .int .i64 x.int, .string x.text, .slice xa xn xc, .slice ya yn yc] 28)).alloc (.cells #[.string s, .int .i64 x.kind, .int .i64 x.int, .string x.text, .slice xa xn xc, .slice ya yn yc] 37)).drew)) (K := KFld (KV 3)) (gx := w3.heap.size + 1) (v := .slice la ln lc) (tx := 37) (e := 37) (B := w.heap.size) (ok := fun j => w.heap.size + 2 ≤ j) (okx := fun j => wr.heap.size ≤ j) (xs := xs) (x := (s, x)) (cs := [.string s, .int .i64 x.kind, .int .i64 x.int, .string x.text, .slice xa xn xc, .slice ya yn yc]) rfl (.tmp 111) (.tmp 117) 26 i0 _ 96 rfl Tryz.underlying26 HI.out.1 HI.out.2.1 HI.out.2.2.1 HI.out.2.2.2 rfl (Nat.succ_pos 5) rfl rfl (X1.out.below (Below.refl _ _).drew) (blk_new (by simp)) (Knd.below X3.out (Below.refl _ _).drew) (fun j hj => ⟨by have := WS.out; omega, fun he => by have := (LT.out j he.symm).2; omega⟩) (by intro j hj; have := h8; simp at hj; omega) (by rw [HXL.out]; omega) (by rw [HXL.out]; omega) (by have := h8; simp; omega) ?_; intro v5 w5 hO5 honly; (have O5 := Ap.of hO5); (have ON5 := Ap.of honly); clear hO5 honly; obtain ⟨A5, c5, hv5, _, _⟩ := O5.out.slice; rw [show (xs ++ [(s, x)]).length = ln + 1 from by simp [HXL.out]] at hv5; subst hv5; (have b8 := blk_only (blk_draw (blk_old (blk_old Bk8.out))) ON5.out (fun he => by have := OB.out _ he; omega)); (have c8 := blk_cells b8); (have f8 := blk_free b8); (have b8' := Ap.of b8); clear b8)
        all_goals
          (go_wp2_with fail
           go_roundw
           case rel =>
             have hs := Only.setCell w5 ⟨w.heap.size + 1, 4, none⟩ (.slice A5 (ln + 1) c5)
             have hLT : ∀ j, (Value.slice la ln lc).ownBlock = some j → w.heap.size + 2 ≤ j := OB.out
             have b4 := blk_only (blk_draw (blk_old (blk_old Bk4.out))) ON5.out (fun he => by have := hLT _ he; omega)
             have hb0 : Below w.heap.size w (((w3.alloc (.cells #[.int .i64 x.kind, .int .i64 x.int, .string x.text, .slice xa xn xc, .slice ya yn yc] 28)).alloc (.cells #[.string s, .int .i64 x.kind, .int .i64 x.int, .string x.text, .slice xa xn xc, .slice ya yn yc] 37)).drew) :=
               ((BL3.out.alloc (by omega) _).alloc (by simp; omega) _).drew
             have bl5 := bel_only hb0 (by have := h8; simp; omega) ON5.out (fun j he => by have := hLT j he; omega)
             refine ⟨k + 1, A2, c2, A5, ln + 1, c5, xs ++ [(s, x)], by omega, by go_num, rfl, Ap.of (by simp [HXL.out]), by omega, Ap.of (by rw [HXS.out, HZ.out]; show _ = if bitO (c / 6) k then _ else _; rw [if_pos HBIT.out, HS.out]; rfl), Ap.of (blk_only b4 hs (by simp)), Ap.of ?_, Ap.of (O5.out.only hs (fun j hj he => by simp at he; omega)), Ap.of (bel_only bl5 bl5.size hs (fun j he => by simp at he; omega))⟩
             simpa using blk_set b8'.out 4 (.slice A5 (ln + 1) c5)
           case measure => simp [intOf]; omega)
      · have HBIT : Ap (bitO (c / 6) k = false) := Ap.of (by unfold bitO; assumption)
        go_roundw
        case rel => exact ⟨k + 1, A, cp, la, ln, lc, xs, by omega, by go_num, rfl, HXL, by omega, Ap.of (by rw [HXS.out]; show _ = if bitO (c / 6) k then _ else _; rw [if_neg (by rw [HBIT.out]; decide)]), B4, B8, O, BL⟩
        case measure => simp [intOf]; omega
    · obtain rfl : k = 4 := by omega
      have c4 := blk_cells B4.out
      have f4 := blk_free B4.out
      have c8 := blk_cells B8.out
      have h8 := blk_lt B8.out
      obtain ⟨A6, c6, hv6, hrow⟩ := O.out.row
      rw [HXL.out] at hv6 hrow
      injection hv6 with hv6 _ hv7
      subst hv6 hv7
      have HROW := Ap.of hrow
      clear hrow
      go_wp2_with fail
      have hs := only5 wr w.heap.size (.int .i64 5) (.int .i64 0) (.string ⟨#[]⟩) (.slice none 0 0) (.slice la ln lc)
      exact bodyPost_ret (v := .tuple #[.agg #[.int .i64 5, .int .i64 0, .string ⟨#[]⟩, .slice none 0 0, .slice la ln lc], .slice A 0 cp]) (by simp [results, Tryz.results41, go_sem, c4]) rfl
        ⟨.mk 5 0 ⟨#[]⟩ [] xs, none, 0, 0, la, ln, lc, A, cp, by rw [HXS.out]; exact HV.out, rfl, ⟨none, 0, 0, la, ln, lc, rfl, i64_5, i64_0, empty_small, Row.nil _ _ _, (HROW.out.only hs (fun j hj he => by omega)).mono (fun j hj => by omega)⟩,
          bel_only BL.out BL.out.size hs (fun j he => by omega)⟩

theorem made1_calls (h0 : 0 ≤ c) (h1 : c ≤ 255) (hL : Laid w) (hn : 1 ≤ cap) (hc : cap ≤ 9223372036854775807) (hg : g < w.heap.size) (hcell : w.cell? ⟨g, off, none⟩ = some (.int .u8 c)) :
    Calls Tryz.prog 41 #[.slice (some ⟨g, off, none⟩) 1 cap, .int .i64 4] w (MadeO 3 (oneV c) w) := by
  have hr : c % 6 = 0 ∨ c % 6 = 1 ∨ c % 6 = 2 ∨ c % 6 = 3 ∨ c % 6 = 4 ∨ c % 6 = 5 := by omega
  rcases hr with hr | hr | hr | hr | hr | hr
  · exact made1_null g off cap c w h0 h1 hr hn hc hg hcell
  · exact made1_bool g off cap c w h0 h1 hr hn hc hg hcell
  · exact made1_int g off cap c w h0 h1 hr hn hc hg hcell
  · exact made1_text g off cap c w h0 h1 hr hL hn hc hg hcell
  · exact made1_list g off cap c w h0 h1 hr hn hc hg hcell
  · exact made1_obj g off cap c w h0 h1 hr hL hn hc hg hcell
end

/-- A value in new memory, by name. -/
def ValO (d : Nat) (y : Val) (w : World) (e : Ending) (w' : World) : Prop :=
  ∃ (x : Val) (la : Option Addr) (ln lc : Nat) (fa : Option Addr) (fn fc : Nat), x = y ∧ e = .returned (.agg #[.int .i64 x.kind, .int .i64 x.int, .string x.text, .slice la ln lc, .slice fa fn fc]) ∧ (KV d).R w' (fun k => w.heap.size ≤ k) x [.int .i64 x.kind, .int .i64 x.int, .string x.text, .slice la ln lc, .slice fa fn fc] ∧ Below w.heap.size w w'

section
attribute [local go_sem] max2_int min2_int
set_option maxRecDepth 100000 in
set_option maxHeartbeats 4000000 in
theorem of1_calls (g : Nat) (c : Int) (h0 : 0 ≤ c) (h1 : c ≤ 255) (w : World) (hL : Laid w) (hg : w.heap[g]? = some (.cells #[.int .u8 c] 5 (0, 0))) :
    Calls Tryz.prog 16 #[.slice (some ⟨g, 0, none⟩) 1 1] w (ValO 4 (oneV c) w) := by
  have hrun := cutTo (some ⟨g, 0, none⟩) 1 1 1 (by decide) (by decide) (fun h => by cases h) (by decide)
  have HG := Ap.of hg
  have HL := Ap.of hL
  clear hL hg
  go_enter Tryz.func16, Tryz.ntmps16
  go_wp2_with fail
  refine (made1_calls g 0 1 c _ h0 h1 (HL.out.below (bel_alloc _ _)) (by decide) (by decide) (Nat.lt_of_lt_of_le (blk_lt HG.out) (by simp)) (blk_cells (blk_old HG.out) 0)).mono ?_
  rintro e w1 ⟨x, la, ln, lc, fa, fn, fc, A2, c2, hz, rfl, hx, hb⟩
  have b2 := blk_bel (blk_new (o := .cells #[.int .i64 0, .int .i64 0, .string ⟨#[]⟩, .slice none 0 0, .slice none 0 0] 28) (rfl : w.heap.size = w.heap.size)) hb
  have c2' := blk_cells b2
  have f2' := blk_free b2
  have h2 := blk_lt b2
  have HX := Ap.of hx
  have HZ := Ap.of hz
  have HBL := Ap.of (bel_step (bel_alloc w _) hb)
  clear hx hz hb b2
  go_wp2_with fail
  have hs := (only5 w1 w.heap.size (.int .i64 x.kind) (.int .i64 x.int) (.string x.text) (.slice la ln lc) (.slice fa fn fc)).alloc (.cells #[.int .i64 x.kind, .int .i64 x.int, .string x.text, .slice la ln lc, .slice fa fn fc] 28)
  exact bodyPost_ret (v := .agg #[.int .i64 x.kind, .int .i64 x.int, .string x.text, .slice la ln lc, .slice fa fn fc]) (by simp [results, Tryz.results16, go_sem, c2', h2]) rfl
    ⟨x, la, ln, lc, fa, fn, fc, HZ.out, rfl, (KV 4).mono (fun j hj => by simp at hj; omega) (Knd.only HX.out hs (fun j hj he => by simp at hj; omega)), bel_only HBL.out HBL.out.size hs (fun j he => by omega)⟩
end

def smallV (c : Int) : Val := if c % 5 = 0 then .mk 2 (c / 5 % 4) ⟨#[]⟩ [] [] else oneV c
set_option maxRecDepth 100000 in
set_option maxHeartbeats 4000000 in
theorem small1_calls (c : Int) (h0 : 0 ≤ c) (h1 : c ≤ 255) (w : World) (hL : Laid w) :
    Calls Tryz.prog 32 #[.int .u8 c] w (ValO 4 (smallV c) w) := by
  have HL := Ap.of hL
  clear hL
  have hb2 := bel_step (bel_alloc w (.cells #[.int .i64 0, .int .i64 0, .string ⟨#[]⟩, .slice none 0 0, .slice none 0 0] 28)) (bel_alloc _ (.cells #[.int .u8 c] 5))
  have hof := of1_calls (w.heap.size + 1) c h0 h1 ((w.alloc (.cells #[.int .i64 0, .int .i64 0, .string ⟨#[]⟩, .slice none 0 0, .slice none 0 0] 28)).alloc (.cells #[.int .u8 c] 5)) (HL.out.below hb2) (blk_new (by simp))
  have HOF := Ap.of hof
  have HB2 := Ap.of hb2
  have b0 := blk_old (o' := .cells #[.int .u8 c] 5) (blk_new (w := w) (o := .cells #[.int .i64 0, .int .i64 0, .string ⟨#[]⟩, .slice none 0 0, .slice none 0 0] 28) rfl)
  have HB0 := Ap.of b0
  clear hof hb2 b0
  have e0 : (0 : Int) ≤ c / 5 := by omega
  have e1 : c / 5 ≤ 51 := by omega
  by_cases h5 : c % 5 = 0
  · have t1 : (c % 5 == 0) = true := by simpa using h5
    have HV := Ap.of (show Val.mk 2 (c / 5 % 4) ⟨#[]⟩ [] [] = smallV c from (if_pos h5).symm)
    clear h5
    go_enter Tryz.func32, Tryz.ntmps32
    go_wp2_with fail
    refine HOF.out.mono ?_
    rintro e w1 ⟨x, la, ln, lc, fa, fn, fc, hz, rfl, hx, hb⟩
    have HB3 := Ap.of (bel_step HB2.out hb)
    have b1 := blk_bel HB0.out hb
    have c1 := blk_cells b1
    have f1 := blk_free b1
    have l1 := blk_lt b1
    clear hx hb b1 hz
    generalize x.int = xi at *
    generalize x.kind = xk at *
    generalize x.text = xt at *
    go_wp2_with fail
    have hs := (only5 w1 w.heap.size (.int .i64 2) (.int .i64 (c / 5 % 4)) (.string ⟨#[]⟩) (.slice none 0 0) (.slice none 0 0)).alloc (.cells #[.int .i64 xk, .int .i64 xi, .string xt, .slice la ln lc, .slice fa fn fc] 28)
    exact bodyPost_ret (v := .agg #[.int .i64 2, .int .i64 (c / 5 % 4), .string ⟨#[]⟩, .slice none 0 0, .slice none 0 0]) (by simp [results, Tryz.results32, go_sem, c1, l1]) rfl
      ⟨.mk 2 (c / 5 % 4) ⟨#[]⟩ [] [], none, 0, 0, none, 0, 0, HV.out, rfl, flat_R 3 _ _ 2 _ _ (inI64_small (by decide) (by decide)) (inI64_small (by omega) (by omega)) (by unfold maxLen; decide), bel_only HB3.out HB3.out.size hs (fun j he => by omega)⟩
  · have t1 : (c % 5 == 0) = false := by simpa using h5
    have HV := Ap.of (show oneV c = smallV c from (if_neg h5).symm)
    clear h5
    go_enter Tryz.func32, Tryz.ntmps32
    go_wp2_with fail
    refine HOF.out.mono ?_
    rintro e w1 ⟨x, la, ln, lc, fa, fn, fc, hz, rfl, hx, hb⟩
    have HB3 := Ap.of (bel_step HB2.out hb)
    have b1 := blk_bel HB0.out hb
    have c1 := blk_cells b1
    have f1 := blk_free b1
    have l1 := blk_lt b1
    have HX := Ap.of hx
    have HZ := Ap.of hz
    clear hx hb b1 hz
    go_wp2_with fail
    have hs := (only5 w1 w.heap.size (.int .i64 x.kind) (.int .i64 x.int) (.string x.text) (.slice la ln lc) (.slice fa fn fc)).alloc (.cells #[.int .i64 x.kind, .int .i64 x.int, .string x.text, .slice la ln lc, .slice fa fn fc] 28)
    exact bodyPost_ret (v := .agg #[.int .i64 x.kind, .int .i64 x.int, .string x.text, .slice la ln lc, .slice fa fn fc]) (by simp [results, Tryz.results32, go_sem, c1, l1]) rfl
      ⟨x, la, ln, lc, fa, fn, fc, by rw [HZ.out]; exact HV.out, rfl, (KV 4).mono (fun j hj => by simp at hj; omega) (Knd.only HX.out hs (fun j hj he => by simp at hj; omega)), bel_only HB3.out HB3.out.size hs (fun j he => by omega)⟩
end Go.Proofs.YtlomieopppndeaaGreatDoor
