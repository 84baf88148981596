/- RateSplit: time that passes in two parts leaves as much in a bucket as it does at once. No condition beside the row's own. -/
import Derived.Test.YtgmeopkkdlajnaaRows
import Derived.Test.YtgmeopkkdlajnaaC
import Derived.Below
import Derived.ProofKit
import Derived.OpenShut
namespace Go.Proofs.Ytgmeopkkdlajnaa.rateSplit
open Go.ChangeShapes Go.WideShapes Go.ChangeAt Go.RowKit
set_option linter.unusedVariables false      -- a walk need not use every 'w<i>' (that an integer argument fits its kind)

theorem own : ownKnob Try.prog.godebug = none := by kernel_rfl

open Go.Proofs.YtgmeopkkdlajnaaW.PrintWords Go.Proofs.YtgmeopkkdlajnaaW.PrintLast Go.Proofs.YtgmeopkkdlajnaaW.PrintMore
open PRateActs (IsS39)
set_option maxHeartbeats 1000000 in
theorem walk (a0 : Int) (a1 : Int) (a2 : Int) (a3 : Int) (w0 : (Lit.int .i64 a0).wf = true) (w1 : (Lit.int .i64 a1).wf = true) (w2 : (Lit.int .u16 a2).wf = true) (w3 : (Lit.int .u16 a3).wf = true) (w : World) :
    Calls Try.prog 7 #[.int .i64 a0, .int .i64 a1, .int .u16 a2, .int .u16 a3] w fun e w' => e = .returned (.bool true) ∧ Below w.heap.size w w' := by
  have b2 : 0 ≤ a2 ∧ a2 ≤ 65535 := by simpa [Lit.wf, IntKind.min, IntKind.max, IntKind.signed, IntKind.bits] using w2
  have b3 : 0 ≤ a3 ∧ a3 ≤ 65535 := by simpa [Lit.wf, IntKind.min, IntKind.max, IntKind.signed, IntKind.bits] using w3
  obtain ⟨b20, b21⟩ := b2
  obtain ⟨b30, b31⟩ := b3
  clear w0 w1 w2 w3
  go_enter Try.func7, Try.ntmps7
  go_wp2_with fail
  refine (awake_calls _).mono ?_
  rintro e w1 ⟨rfl, B1⟩
  replace B1 := Aside0.mk B1
  go_wp2_with fail
  refine (new_v _ _ _ _ rfl rfl B1.out).mono ?_
  rintro e w2 ⟨gu, rfl, I2, B2, _⟩
  go_wp2_with fail
  refine (new_v _ _ _ _ rfl rfl B2.out).mono ?_
  rintro e w3 ⟨gv, rfl, V3, B3, b3, hv⟩
  have U3 := Aside0.mk (I2.out.below b3.out)
  have hne : gu ≠ gv := by have := I2.out.lt; have := hv.out; omega
  clear I2 B1 B2 b3 hv
  go_wp2_with fail
  have ok0 := new_ok a0 a1
  generalize nR a0 = r at *
  generalize nB a1 = bu at *
  go_loopw [25] (fun i wr => ∃ k : Nat, k ≤ 20 ∧ i = .int .i64 k ∧ ∃ l, Okb r bu l 0 ∧ Aside0 (IsS39 w wr gu r bu l 0) ∧ Aside0 (IsS39 w wr gv r bu l 0) ∧ Aside0 (Below w.heap.size w wr)) (fun i _ => 20 - (intOf i).toNat)
  case atStart => exact ⟨0, by omega, rfl, bu, ok0, U3, V3, B3⟩
  case round =>
    obtain ⟨k, hk, rfl, l, ok, U, V, B⟩ := hrel
    clear U3 V3 B3 ok0
    by_cases hlt : k < 20
    · have ok1 := ok.rest 0
      rw [tAt_0] at ok1
      have OK := Aside0.mk ok
      have OK1 := Aside0.mk ok1
      clear ok ok1
      go_wp2_with fail
      refine (take_v OK.out 0 _ _ 0 rfl rfl tAt_0 B.out U.out).mono ?_
      rintro e w4 ⟨rfl, U4, B4, K4⟩
      have V4 := Aside0.mk (V.out.kept K4.out (show ¬ (gv = gu) from fun h => hne h.symm))
      clear U V B K4
      go_wp2_with fail
      refine (take_v OK.out 0 _ _ 0 rfl rfl tAt_0 B4.out V4.out).mono ?_
      rintro e w5 ⟨rfl, V5, B5, K5⟩
      have U5 := Aside0.mk (U4.out.kept K5.out (show ¬ (gu = gv) from hne))
      clear U4 V4 B4 K5
      go_wp2_with fail
      go_roundw
      case rel => exact ⟨k + 1, by omega, by go_num, _, OK1.out, U5, V5, B5⟩
      case measure => simp [intOf]; omega
    · have : k = 20 := by omega
      subst this
      have OK := Aside0.mk ok
      have OK1 := Aside0.mk (ok.left a2)
      have hT := Aside0.mk (lAt_split ok a2 (a2 + a3) (by rw [tAt_in (by omega) (by omega), tAt_in (by omega) (by omega)]; omega))
      clear ok
      go_wp2_with fail
      refine (left_o OK.out a2 B.out U.out).mono ?_
      rintro e w4 ⟨rfl, U4, B4, K4⟩
      have V4 := Aside0.mk (V.out.kept K4.out (show ¬ (gv = gu) from fun h => hne h.symm))
      clear U V B K4
      go_wp2_with fail
      refine (left_o OK1.out (a2 + a3) B4.out U4.out).mono ?_
      rintro e w5 ⟨rfl, U5, B5, K5⟩
      have V5 := Aside0.mk (V4.out.kept K5.out (show ¬ (gv = gu) from fun h => hne h.symm))
      clear U4 V4 B4 K5
      rw [hT.out]
      go_wp2_with fail
      refine (left_o OK.out (a2 + a3) B5.out V5.out).mono ?_
      rintro e w6 ⟨rfl, V6, B6, K6⟩
      clear V5 U5 B5 K6 hT
      generalize lAt r bu l 0 (a2 + a3) = q
      go_wp2_with fail
      go_ret
      exact ⟨by simp, B6.out⟩


/-! ### THE ROW's STEP: WRITTEN OUT: LEAVE IT -/
set_option maxRecDepth 100000 in
theorem lifted (os : Os) (started : os.Started) (H : Type) (enc : TypeId × Value → H) :
    ReturnsInHanded {} Try.checked os 7 .any (Rows.rateSplitSpec.pre6 enc Try.prog Try.f7 Rows.rateSplitRow.domain false) (Rows.rateSplitSpec.post enc Try.prog Try.f7 false true false false) := by
  refine returnsInHanded_of_change (C := Try.checked) own started (by kernel_rfl) Try.func7
    (ChangeSpec.witness6 (enc := enc) (C := Try.checked) false ⟨#[], #[.int .i64 0, .int .i64 0, .int .u16 0, .int .u16 0], []⟩ 8 (by kernel_rfl) (by kernel_rfl) (by kernel_rfl) (by kernel_rfl)) ?_
  intro W base args ds gs before hval0 hW hcnd _
  have hval : ∀ (j : Nat) t v, Try.f7.params[j]? = some t → args[j]? = some v → Value.okWide Try.prog W .any base t v := hval0
  have hW' := hW
  obtain ⟨p, q, hA0, hV, rfl, hfz, hnd⟩ := hW
  have hA : DataW.TrodAll enc Try.prog W 0 (fun _ => true) true Try.f7.params.toList args.toList ds p := hA0
  rw [Try.params7] at hA hval
  obtain ⟨v0, vs0, d0, ds0, p0, q0, hargs, rfl, rfl, h0, r0⟩ := trodAll_cons hA
  obtain ⟨v1, vs1, d1, ds1, p1, q1, rfl, rfl, rfl, h1, r1⟩ := trodAll_cons r0
  obtain ⟨v2, vs2, d2, ds2, p2, q2, rfl, rfl, rfl, h2, r2⟩ := trodAll_cons r1
  obtain ⟨v3, vs3, d3, ds3, p3, q3, rfl, rfl, rfl, h3, r3⟩ := trodAll_cons r2
  obtain ⟨rfl, rfl, rfl⟩ := trodAll_nil r3
  obtain rfl : args = #[v0, v1, v2, v3] := by cases args; simp_all
  obtain ⟨rfl, rfl⟩ := trodVars_none hV
  obtain ⟨a0, rfl, rfl, rfl, w0⟩ := open_int Try.underlying3 (hval 0 3 v0 rfl rfl) h0
  obtain ⟨a1, rfl, rfl, rfl, w1⟩ := open_int Try.underlying3 (hval 1 3 v1 rfl rfl) h1
  obtain ⟨a2, rfl, rfl, rfl, w2⟩ := open_int Try.underlying33 (hval 2 33 v2 rfl rfl) h2
  obtain ⟨a3, rfl, rfl, rfl, w3⟩ := open_int Try.underlying33 (hval 3 33 v3 rfl rfl) h3
  clear hA0 hval0
  simp only [List.append_nil] at hW'
  refine (walk a0 a1 a2 a3 w0 w1 w2 w3 W).mono fun e W' ⟨he, hg⟩ => ?_
  subst he
  exact ⟨_, rfl, _, _, _, [], _, [], hW', trodAll_mk1 (shut_bool Try.underlying4 _), (trodAll_cons_mk (shut_int Try.underlying3 w0) (trodAll_cons_mk (shut_int Try.underlying3 w1) (trodAll_cons_mk (shut_int Try.underlying33 w2) (trodAll_cons_mk (shut_int Try.underlying33 w3) trodAll_mk0)))), rfl, hg.frame _, fun h => by cases h⟩

theorem over : Rows.rateSplitRow.holds Try.pinned (OpenSpec.ofChange Rows.rateSplitSpec) :=
  OpenClaim.holds_of_wide 7 Try.f7 rfl rfl rfl rfl rfl rfl rfl ⟨rfl, rfl, rfl, rfl, rfl⟩ rfl rfl rfl rfl rfl (by kernel_rfl) Try.func7 (by kernel_rfl)
    (of_decide_eq_true (by kernel_rfl)) (by unfold Func.isWrapper; first | (rw [if_pos (by decide +kernel)]; kernel_rfl) | (rw [if_neg (by decide +kernel)]; exact ⟨rfl, rfl⟩))
    (fun os started H enc _ => lifted os started H enc)

/-- ████ THE STATEMENT ████ -/
theorem proved : Rows.RateSplitSaid :=
  over
#print axioms proved
end Go.Proofs.Ytgmeopkkdlajnaa.rateSplit
