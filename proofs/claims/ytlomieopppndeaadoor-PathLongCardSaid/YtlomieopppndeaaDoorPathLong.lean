/- PathLong's walk. -/
import Derived.Test.YtlomieopppndeaaDoorPathAwake
import Derived.Test.YtlomieopppndeaaDoorPathLongT
namespace Go.Proofs.YtlomieopppndeaaDoor
open Go.RowKit

set_option maxRecDepth 100000 in
set_option maxHeartbeats 2000000 in
theorem long_calls (n m dot : Int) (hn : 0 ≤ n ∧ n ≤ 255) (hm : 0 ≤ m ∧ m ≤ 255) (w : World) (G : PathG w) : Calls Tryd.prog 8 #[.int .u8 n, .int .u8 m, .int .u8 dot] w fun e w' => e = .returned (.bool true) ∧ Below w.heap.size w w' := by
  have GG := Ap.of G
  clear G
  obtain ⟨K, hK⟩ : ∃ K : Nat, n % 12 = (K : Int) := ⟨(n % 12).toNat, by omega⟩
  obtain ⟨L, hL⟩ : ∃ L : Nat, m % 40 = (L : Int) := ⟨(m % 40).toNat, by omega⟩
  have hK12 : K < 12 := by omega
  have hL40 : L < 40 := by omega
  go_enter Tryd.func8, Tryd.ntmps8
  go_wp2_with fail
  refine (awake_calls w GG.out).mono ?_
  rintro e w1 ⟨rfl, hb⟩
  have HB := Ap.of hb
  have G1 := Ap.of (GG.out.below hb)
  clear hb
  go_wp2_with fail
  go_loop [9, 10] (fun vp vi => ∃ i : Nat, i ≤ L ∧ vp = .string (xsB i) ∧ vi = .int .i64 i) (fun _ vi => L - (intOf vi).toNat)
  case atStart => exact ⟨0, Nat.zero_le _, rfl, rfl⟩
  case round =>
    obtain ⟨i, hi, rfl, rfl⟩ := hrel
    by_cases hlt : i < L
    · have hsz : (xsB i).size = i := xsB_size i
      go_wp2_with fail
      go_round
      case rel => exact ⟨i + 1, by omega, rfl, by go_num⟩
      case measure => simp [intOf]; omega
    · obtain rfl : i = L := by omega
      have hps : (xsB i).size = i := xsB_size i
      have hok := fun j (hj : j < 12) => long_cases (l := i) hj hL40
      have HOK := Ap.of hok
      clear hok
      generalize hP : xsB i = p at *
      have HP := Ap.of hP
      clear hP
      go_wp2_with fail
      go_loop [11, 12] (fun vp vi => ∃ j : Nat, j ≤ K ∧ vp = .string (longB p j) ∧ vi = .int .i64 (1 + (j : Int))) (fun _ vi => K + 1 - (intOf vi).toNat)
      case atStart => exact ⟨0, Nat.zero_le _, rfl, rfl⟩
      case round =>
        obtain ⟨j, hj, rfl, rfl⟩ := hrel
        by_cases hlt : j < K
        · have hsz : (longB p j).size = p.size + 2 * j := longB_size p j
          have hsz2 : (longB p j ++ (⟨#[46]⟩ : ByteArray)).size = p.size + 2 * j + 1 := by rw [ByteArray.size_append, hsz]; rfl
          go_wp2_with fail
          go_round
          case rel => exact ⟨j + 1, by omega, rfl, by go_num⟩
          case measure => simp [intOf]; omega
        · obtain rfl : j = K := by omega
          go_wp2_with fail
          have hok := HOK.out j hK12
          clear HOK
          have hsz : (longB p j ++ (⟨#[46]⟩ : ByteArray)).size ≤ 100 := by rw [ByteArray.size_append]; show (longB p j).size + 1 ≤ 100; omega
          have HS := Ap.of (show (longB p j).size < 100 from hok.1)
          have HSZ := Ap.of hsz
          have hok2 := hok.2
          clear hsz hok
          generalize longB p j = s at *
          rcases hok2 with ⟨hbad, hno⟩ | ⟨⟨h1, h2, h3⟩, hyes, hlen, hfst, hno⟩
          · have HN := Ap.of hno
            clear hno
            refine (parse_calls' s _ (by have := HS.out; omega) G1.out).mono ?_
            rintro e w2 (⟨hy, _⟩ | ⟨_, g2, rfl, he, hb⟩)
            case inl => rw [HN.out] at hy; cases hy
            have HE := Ap.of he
            have HB2 := Ap.of (bel_step HB.out hb)
            have G2 := Ap.of (G1.out.below hb)
            clear he hb
            by_cases h8 : 8 < j + 1 <;> by_cases h0 : i = 0 <;> by_cases h32 : 32 < i
            all_goals first | omega | skip
            all_goals
              have t1 : decide ((8 : Int) < 1 + (j : Int)) = decide (8 < j + 1) := decide_eq_decide.2 (by omega)
              have t2 : ((i : Int) == 0) = decide (i = 0) := by rw [Bool.eq_iff_iff, beq_iff_eq, decide_eq_true_iff]; omega
              have t3 : decide ((32 : Int) < (i : Int)) = decide (32 < i) := decide_eq_decide.2 (by omega)
              simp only [h8, h0, h32, decide_true, decide_false] at t1 t2 t3
              go_wp2_with fail
              refine (code_calls 1 6 _ w2 HE.out G2.out.et).mono ?_
              rintro e w4 ⟨rfl, hb4⟩
              have HB4 := Ap.of (bel_step HB2.out hb4)
              clear hb4
              go_wp2_with fail
              go_ret
              exact ⟨rfl, HB4.out⟩
          · have t1 : decide ((8 : Int) < 1 + (j : Int)) = false := decide_eq_false (by omega)
            have t2 : ((i : Int) == 0) = false := by simp; omega
            have t3 : decide ((32 : Int) < (i : Int)) = false := decide_eq_false (by omega)
            have HY := Ap.of hyes
            have HN := Ap.of hno
            have HLN := Ap.of hlen
            have HFS := Ap.of hfst
            clear hyes hno hlen hfst
            refine (parse_calls' s _ (by have := HS.out; omega) G1.out).mono ?_
            rintro e w2 (⟨_, g, rfl, hg, hst, hb⟩ | ⟨hy, _⟩)
            case inr => rw [HY.out] at hy; cases hy
            rw [HLN.out]
            have c0 : w2.cell? ⟨g, 0, none⟩ = some (.string p) := by
              rw [hst.cell (k := 0) (by rw [HLN.out]; omega), List.getD_eq_getElem?_getD, HFS.out]; rfl
            have HB2 := Ap.of (bel_step HB.out hb)
            have G2 := Ap.of (G1.out.below hb)
            clear hst hb hg
            have hcall := parse_calls' (s ++ (⟨#[46]⟩ : ByteArray)) w2 (Nat.lt_of_le_of_lt HSZ.out (by decide)) G2.out
            have HCL := Ap.of hcall
            clear hcall
            have ecast : ((j + 1 : Nat) : Int) = (j : Int) + 1 := by omega
            have esz : ¬ 9223372036854775807 < s.size + 1 := by have := HS.out; omega
            go_wp2_with fail
            refine HCL.out.mono ?_
            rintro e w3 (⟨hy, _⟩ | ⟨_, g2, rfl, he, hb⟩)
            case inl => rw [HN.out] at hy; cases hy
            have HE := Ap.of he
            have c0' := c0
            have l0 := World.block_lt_of_cell? w2 _ c0
            have c1 : w3.cell? ⟨g, 0, none⟩ = some (.string p) := (hb.cell l0).trans c0
            have HB3 := Ap.of (bel_step HB2.out hb)
            have G3 := Ap.of (G2.out.below hb)
            clear he hb c0 c0' l0
            go_wp2_with fail
            refine (code_calls 1 6 _ w3 HE.out G3.out.et).mono ?_
            rintro e w4 ⟨rfl, hb4⟩
            have HB4 := Ap.of (bel_step HB3.out hb4)
            clear hb4
            go_wp2_with fail
            go_ret
            exact ⟨rfl, HB4.out⟩
end Go.Proofs.YtlomieopppndeaaDoor
