/- RateBack: time that goes back is as time that stands. No condition beside the row's own. -/
import Derived.Test.YtgmeopkkdlajnaaRows
import Derived.Test.YtgmeopkkdlajnaaC
import Derived.Below
import Derived.ProofKit
import Derived.OpenShut
namespace Go.Proofs.Ytgmeopkkdlajnaa.rateBack
open Go.ChangeShapes Go.WideShapes Go.ChangeAt Go.RowKit
set_option linter.unusedVariables false      -- a walk need not use every 'w<i>' (that an integer argument fits its kind)

theorem own : ownKnob Try.prog.godebug = none := by kernel_rfl

open Go.Proofs.YtgmeopkkdlajnaaW.PrintWords Go.Proofs.YtgmeopkkdlajnaaW.PrintLast Go.Proofs.YtgmeopkkdlajnaaW.PrintMore
open PRateActs (IsS39)
attribute [local go_sem] max2_int min2_int
set_option maxHeartbeats 1000000 in
theorem walk (a0 : Int) (a1 : Int) (a2 : Int) (a3 : Int) (w0 : (Lit.int .i64 a0).wf = true) (w1 : (Lit.int .i64 a1).wf = true) (w2 : (Lit.int .i64 a2).wf = true) (w3 : (Lit.int .i64 a3).wf = true) (w : World) :
    Calls Try.prog 6 #[.int .i64 a0, .int .i64 a1, .int .i64 a2, .int .i64 a3] w fun e w' => e = .returned (.bool true) ∧ Below w.heap.size w w' := by
  clear w0 w1 w2 w3
  obtain ⟨bk, hbk⟩ : ∃ bk, mn a3 a2 = bk := ⟨_, rfl⟩
  have hle : bk ≤ a2 := by rw [← hbk]; unfold mn; split <;> omega
  have hbk_ : (if a2 < a3 then a2 else a3) = bk := hbk
  have HLE := Aside0.mk hle
  clear hle hbk
  go_enter Try.func6, Try.ntmps6
  go_wp2_with fail
  refine (awake_calls _).mono ?_
  rintro e w1 ⟨rfl, B1⟩
  replace B1 := Aside0.mk B1
  go_wp2_with fail
  refine (new_v _ _ _ _ rfl rfl B1.out).mono ?_
  rintro e w2 ⟨gu, rfl, I2, B2, _⟩
  go_wp2_with fail
  refine (new_v _ _ _ _ rfl rfl B2.out).mono ?_
  rintro e w3 ⟨gv, rfl, V3, B3, b3, hv⟩
  have U3 := Aside0.mk (I2.out.below b3.out)
  have hne : gu ≠ gv := by have := I2.out.lt; have := hv.out; omega
  have HNE := Aside0.mk hne
  clear I2 B1 B2 b3 hv hne
  have ok0 := new_ok a0 a1
  generalize nR a0 = r at *
  generalize nB a1 = bu at *
  have OK0 := Aside0.mk ok0
  clear ok0
  go_wp2_with fail
  go_loopw [25] (fun i wr => ∃ k : Nat, k ≤ 3 ∧ i = .int .i64 k ∧ ∃ l, Aside0 (Okb r bu l (aK a2 k)) ∧ Aside0 (IsS39 w wr gu r bu l (aK a2 k)) ∧ Aside0 (IsS39 w wr gv r bu l (aK a2 k)) ∧ Aside0 (Below w.heap.size w wr)) (fun i _ => 3 - (intOf i).toNat)
  case atStart => exact ⟨0, by omega, rfl, bu, OK0, U3, V3, B3⟩
  case round =>
    obtain ⟨k, hk, rfl, l, OK, U, V, B⟩ := hrel
    clear U3 V3 B3 OK0
    by_cases hlt : k < 3
    · have OK1 := Aside0.mk (OK.out.rest a2)
      obtain ⟨q, hq⟩ : ∃ q, tookAt r bu l (aK a2 k) a2 = q := ⟨_, rfl⟩
      have HQ := Aside0.mk hq
      clear hq
      rw [aK_s] at OK1
      go_wp2_with fail
      refine (take_v OK.out a2 q _ _ HQ.out rfl (aK_s a2 k) B.out U.out).mono ?_
      rintro e w4 ⟨rfl, U4, B4, K4⟩
      have V4 := Aside0.mk (V.out.kept K4.out (show ¬ (gv = gu) from fun h => HNE.out h.symm))
      clear U V B K4
      go_wp2_with fail
      refine (take_v OK.out a2 q _ _ HQ.out rfl (aK_s a2 k) B4.out V4.out).mono ?_
      rintro e w5 ⟨rfl, V5, B5, K5⟩
      have U5 := Aside0.mk (U4.out.kept K5.out (show ¬ (gu = gv) from HNE.out))
      clear U4 V4 B4 K5
      go_wp2_with fail
      go_roundw
      case rel => exact ⟨k + 1, by omega, by go_num, _, OK1, U5, V5, B5⟩
      case measure => simp [intOf]; omega
    · have : k = 3 := by omega
      subst this
      have hs1 : tAt (aK a2 3) a2 = aK a2 3 := tAt_back (Int.le_refl _)
      have hs2 : tAt (aK a2 3) bk = aK a2 3 := tAt_back HLE.out
      generalize aK a2 3 = a at *
      have L1 := Aside0.mk (lAt_stay OK.out hs1)
      have L2 := Aside0.mk (lAt_stay OK.out hs2)
      have T1 := Aside0.mk (took_stay OK.out hs1)
      have T2 := Aside0.mk (took_stay OK.out hs2)
      have R1 := Aside0.mk (rest_stay OK.out hs1)
      have R2 := Aside0.mk (rest_stay OK.out hs2)
      have ok2 := OK.out.rest a2
      rw [R1.out, hs1] at ok2
      have M1 := Aside0.mk (lAt_stay ok2 hs1)
      have M2 := Aside0.mk (lAt_stay ok2 hs2)
      have OK2 := Aside0.mk ok2
      generalize (if l = 0 then 0 else l - 1) = l2 at *
      generalize (!(l == 0)) = q at *
      have S1 := Aside0.mk hs1
      have S2 := Aside0.mk hs2
      clear ok2 hs1 hs2
      go_wp2_with fail
      refine (left_v OK.out bk l a L2.out S2.out B.out U.out).mono ?_
      rintro e w4 ⟨rfl, U4, B4, K4⟩
      have V4 := Aside0.mk (V.out.kept K4.out (show ¬ (gv = gu) from fun h => HNE.out h.symm))
      clear U V B K4
      go_wp2_with fail
      refine (left_v OK.out a2 l a L1.out S1.out B4.out V4.out).mono ?_
      rintro e w5 ⟨rfl, V5, B5, K5⟩
      have U5 := Aside0.mk (U4.out.kept K5.out (show ¬ (gu = gv) from HNE.out))
      clear U4 V4 B4 K5
      go_wp2_with fail
      refine (take_v OK.out bk q l2 a T2.out R2.out S2.out B5.out U5.out).mono ?_
      rintro e w6 ⟨rfl, U6, B6, K6⟩
      have V6 := Aside0.mk (V5.out.kept K6.out (show ¬ (gv = gu) from fun h => HNE.out h.symm))
      clear U5 V5 B5 K6
      go_wp2_with fail
      refine (take_v OK.out a2 q l2 a T1.out R1.out S1.out B6.out V6.out).mono ?_
      rintro e w7 ⟨rfl, V7, B7, K7⟩
      have U7 := Aside0.mk (U6.out.kept K7.out (show ¬ (gu = gv) from HNE.out))
      clear U6 V6 B6 K7
      go_wp2_with fail
      refine (left_v OK2.out a2 l2 a M1.out S1.out B7.out U7.out).mono ?_
      rintro e w8 ⟨rfl, U8, B8, K8⟩
      have V8 := Aside0.mk (V7.out.kept K8.out (show ¬ (gv = gu) from fun h => HNE.out h.symm))
      clear U7 V7 B7 K8
      go_wp2_with fail
      refine (left_v OK2.out bk l2 a M2.out S2.out B8.out V8.out).mono ?_
      rintro e w9 ⟨rfl, V9, B9, K9⟩
      go_wp2_with fail
      go_ret
      exact ⟨by simp, B9.out⟩

/-! ### THE ROW's STEP: WRITTEN OUT: LEAVE IT -/
set_option maxRecDepth 100000 in
theorem lifted (os : Os) (started : os.Started) (H : Type) (enc : TypeId × Value → H) :
    ReturnsInHanded {} Try.checked os 6 .any (Rows.rateBackSpec.pre6 enc Try.prog Try.f6 Rows.rateBackRow.domain false) (Rows.rateBackSpec.post enc Try.prog Try.f6 false true false false) := by
  refine returnsInHanded_of_change (C := Try.checked) own started (by kernel_rfl) Try.func6
    (ChangeSpec.witness6 (enc := enc) (C := Try.checked) false ⟨#[], #[.int .i64 0, .int .i64 0, .int .i64 0, .int .i64 0], []⟩ 8 (by kernel_rfl) (by kernel_rfl) (by kernel_rfl) (by kernel_rfl)) ?_
  intro W base args ds gs before hval0 hW hcnd _
  have hval : ∀ (j : Nat) t v, Try.f6.params[j]? = some t → args[j]? = some v → Value.okWide Try.prog W .any base t v := hval0
  have hW' := hW
  obtain ⟨p, q, hA0, hV, rfl, hfz, hnd⟩ := hW
  have hA : DataW.TrodAll enc Try.prog W 0 (fun _ => true) true Try.f6.params.toList args.toList ds p := hA0
  rw [Try.params6] at hA hval
  obtain ⟨v0, vs0, d0, ds0, p0, q0, hargs, rfl, rfl, h0, r0⟩ := trodAll_cons hA
  obtain ⟨v1, vs1, d1, ds1, p1, q1, rfl, rfl, rfl, h1, r1⟩ := trodAll_cons r0
  obtain ⟨v2, vs2, d2, ds2, p2, q2, rfl, rfl, rfl, h2, r2⟩ := trodAll_cons r1
  obtain ⟨v3, vs3, d3, ds3, p3, q3, rfl, rfl, rfl, h3, r3⟩ := trodAll_cons r2
  obtain ⟨rfl, rfl, rfl⟩ := trodAll_nil r3
  obtain rfl : args = #[v0, v1, v2, v3] := by cases args; simp_all
  obtain ⟨rfl, rfl⟩ := trodVars_none hV
  obtain ⟨a0, rfl, rfl, rfl, w0⟩ := open_int Try.underlying3 (hval 0 3 v0 rfl rfl) h0
  obtain ⟨a1, rfl, rfl, rfl, w1⟩ := open_int Try.underlying3 (hval 1 3 v1 rfl rfl) h1
  obtain ⟨a2, rfl, rfl, rfl, w2⟩ := open_int Try.underlying3 (hval 2 3 v2 rfl rfl) h2
  obtain ⟨a3, rfl, rfl, rfl, w3⟩ := open_int Try.underlying3 (hval 3 3 v3 rfl rfl) h3
  clear hA0 hval0
  simp only [List.append_nil] at hW'
  refine (walk a0 a1 a2 a3 w0 w1 w2 w3 W).mono fun e W' ⟨he, hg⟩ => ?_
  subst he
  exact ⟨_, rfl, _, _, _, [], _, [], hW', trodAll_mk1 (shut_bool Try.underlying4 _), (trodAll_cons_mk (shut_int Try.underlying3 w0) (trodAll_cons_mk (shut_int Try.underlying3 w1) (trodAll_cons_mk (shut_int Try.underlying3 w2) (trodAll_cons_mk (shut_int Try.underlying3 w3) trodAll_mk0)))), rfl, hg.frame _, fun h => by cases h⟩

theorem over : Rows.rateBackRow.holds Try.pinned (OpenSpec.ofChange Rows.rateBackSpec) :=
  OpenClaim.holds_of_wide 6 Try.f6 rfl rfl rfl rfl rfl rfl rfl ⟨rfl, rfl, rfl, rfl, rfl⟩ rfl rfl rfl rfl rfl (by kernel_rfl) Try.func6 (by kernel_rfl)
    (of_decide_eq_true (by kernel_rfl)) (by unfold Func.isWrapper; first | (rw [if_pos (by decide +kernel)]; kernel_rfl) | (rw [if_neg (by decide +kernel)]; exact ⟨rfl, rfl⟩))
    (fun os started H enc _ => lifted os started H enc)

/-- ████ THE STATEMENT ████ -/
theorem proved : Rows.RateBackSaid :=
  over
#print axioms proved
end Go.Proofs.Ytgmeopkkdlajnaa.rateBack
