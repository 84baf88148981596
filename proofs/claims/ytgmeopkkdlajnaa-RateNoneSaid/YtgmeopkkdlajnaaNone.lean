/- RateNone: without a rate a bucket lets pass what it held at first, and no more. No condition beside the row's own. -/
import Derived.Test.YtgmeopkkdlajnaaRows
import Derived.Test.YtgmeopkkdlajnaaC
import Derived.Below
import Derived.ProofKit
import Derived.OpenShut
namespace Go.Proofs.Ytgmeopkkdlajnaa.rateNone
open Go.ChangeShapes Go.WideShapes Go.ChangeAt Go.RowKit
set_option linter.unusedVariables false      -- a walk need not use every 'w<i>' (that an integer argument fits its kind)

theorem own : ownKnob Try.prog.godebug = none := by kernel_rfl

open Go.Proofs.YtgmeopkkdlajnaaW.PrintWords Go.Proofs.YtgmeopkkdlajnaaW.PrintLast Go.Proofs.YtgmeopkkdlajnaaW.PrintMore
open PRateActs (IsS39)
attribute [local go_sem] max2_int min2_int
set_option maxRecDepth 100000 in
set_option maxHeartbeats 1000000 in
theorem walk (a0 : Int) (a1 : Int) (w0 : (Lit.int .i64 a0).wf = true) (w1 : (Lit.int .i64 a1).wf = true) (w : World) :
    Calls Try.prog 8 #[.int .i64 a0, .int .i64 a1] w fun e w' => e = .returned (.bool true) ∧ Below w.heap.size w w' := by
  clear w0 w1
  obtain ⟨r, hr⟩ : ∃ r, mn a0 0 = r := ⟨_, rfl⟩
  have hr_ : (if 0 < a0 then 0 else a0) = r := hr
  have HR := Aside0.mk (show nR r = 0 from by rw [← hr]; exact nR_0 a0)
  obtain ⟨m, hm⟩ : ∃ m, mx a1 1 = m := ⟨_, rfl⟩
  have hm_ : (if a1 < 1 then 1 else a1) = m := hm
  obtain ⟨bu, hbu⟩ : ∃ bu, nB a1 = bu := ⟨_, rfl⟩
  have hbu_ : (if 1000 < m then 1000 else m) = bu := by rw [← hbu, ← hm]; rfl
  have ok0 := new_ok r a1
  rw [HR.out, hbu] at ok0
  have HBU := Aside0.mk hbu
  have OK0 := Aside0.mk ok0
  have b0 := ok0.b0
  have b1 := ok0.b1
  clear ok0 hbu hm hr
  go_enter Try.func8, Try.ntmps8
  go_wp2_with fail
  refine (awake_calls _).mono ?_
  rintro e w1 ⟨rfl, B1⟩
  replace B1 := Aside0.mk B1
  go_wp2_with fail
  refine (new_v _ _ 0 bu HR.out HBU.out B1.out).mono ?_
  rintro e w2 ⟨g, rfl, I2, B2, _⟩
  clear B1
  go_wp2_with fail
  go_loopw [6, 16] (fun n i wr => ∃ k : Nat, k ≤ 1100 ∧ i = .int .i64 k ∧ n = .int .i64 (mn k bu) ∧ Aside0 (Okb 0 bu (bu - mn k bu) ((k - 1 : Nat) : Int)) ∧ Aside0 (IsS39 w wr g 0 bu (bu - mn k bu) ((k - 1 : Nat) : Int)) ∧ Aside0 (Below w.heap.size w wr)) (fun _ i _ => 1100 - (intOf i).toNat)
  case atStart =>
    have e0 : mn ((0 : Nat) : Int) bu = 0 := by unfold mn; rw [if_neg (by omega)]; rfl
    refine ⟨0, by omega, rfl, by rw [e0], ?_, ?_, B2⟩
    · rw [e0]; simpa using OK0
    · rw [e0]; simpa using I2
  case round =>
    obtain ⟨k, hk, rfl, rfl, OK, I, B⟩ := hrel
    clear I2 B2 OK0
    by_cases hlt : k < 1100
    · have hL := lAt_0 OK.out (k : Int)
      have HT := Aside0.mk (tAt_k k (by omega))
      by_cases hb : (k : Int) < bu
      · have e1 : mn (k : Int) bu = k := by unfold mn; rw [if_neg (by omega)]
        have e2 : mn ((k + 1 : Nat) : Int) bu = k + 1 := by unfold mn; rw [if_neg (by omega)]; omega
        have T := Aside0.mk (show tookAt 0 bu (bu - mn k bu) ((k - 1 : Nat) : Int) k = true from by
          unfold tookAt; rw [hL, e1]; simp; omega)
        have R := Aside0.mk (show restAt 0 bu (bu - mn k bu) ((k - 1 : Nat) : Int) k = bu - mn ((k + 1 : Nat) : Int) bu from by
          unfold restAt; rw [hL, e1, e2, if_neg (by omega)]; omega)
        have ok2 := OK.out.rest k
        rw [R.out, HT.out] at ok2
        have OK2 := Aside0.mk ok2
        have E2 := Aside0.mk e2
        have E1 := Aside0.mk e1
        clear ok2 e1 e2 hL
        rw [E1.out]
        go_wp2_with fail
        refine (take_v OK.out k true _ _ T.out R.out HT.out B.out I.out).mono ?_
        rintro e w4 ⟨rfl, I4, B4, K4⟩
        clear I B K4
        go_wp2_with fail
        go_roundw
        case rel => exact ⟨k + 1, by omega, by go_num, by rw [E2.out], by simpa using OK2, by simpa using I4, B4⟩
        case measure => simp [intOf]; omega
      · have e1 : mn (k : Int) bu = bu := by unfold mn; split <;> omega
        have e2 : mn ((k + 1 : Nat) : Int) bu = bu := by unfold mn; rw [if_pos (by omega)]
        have T := Aside0.mk (show tookAt 0 bu (bu - mn k bu) ((k - 1 : Nat) : Int) k = false from by
          unfold tookAt; rw [hL, e1]; simp)
        have R := Aside0.mk (show restAt 0 bu (bu - mn k bu) ((k - 1 : Nat) : Int) k = bu - mn ((k + 1 : Nat) : Int) bu from by
          unfold restAt; rw [hL, e1, e2, if_pos (by omega)]; omega)
        have ok2 := OK.out.rest k
        rw [R.out, HT.out] at ok2
        have OK2 := Aside0.mk ok2
        have E2 := Aside0.mk e2
        have E1 := Aside0.mk e1
        clear ok2 e1 e2 hL
        rw [E1.out]
        go_wp2_with fail
        refine (take_v OK.out k false _ _ T.out R.out HT.out B.out I.out).mono ?_
        rintro e w4 ⟨rfl, I4, B4, K4⟩
        clear I B K4
        go_wp2_with fail
        go_roundw
        case rel => exact ⟨k + 1, by omega, by go_num, by rw [E2.out], by simpa using OK2, by simpa using I4, B4⟩
        case measure => simp [intOf]; omega
    · have : k = 1100 := by omega
      subst this
      have e1 : mn ((1100 : Nat) : Int) bu = bu := by unfold mn; split <;> omega
      rw [e1] at OK I ⊢
      have L := Aside0.mk (lAt_0 OK.out 1099511627776)
      have E := Aside0.mk (show bu - bu = 0 from by omega)
      rw [E.out] at L
      rw [E.out] at OK I
      clear e1
      go_wp2_with fail
      refine (left_v OK.out 1099511627776 0 _ L.out rfl B.out I.out).mono ?_
      rintro e w4 ⟨rfl, I4, B4, K4⟩
      go_wp2_with fail
      go_ret
      exact ⟨by simp, B4.out⟩

/-! ### THE ROW's STEP: WRITTEN OUT: LEAVE IT -/
set_option maxRecDepth 100000 in
theorem lifted (os : Os) (started : os.Started) (H : Type) (enc : TypeId × Value → H) :
    ReturnsInHanded {} Try.checked os 8 .any (Rows.rateNoneSpec.pre6 enc Try.prog Try.f8 Rows.rateNoneRow.domain false) (Rows.rateNoneSpec.post enc Try.prog Try.f8 false true false false) := by
  refine returnsInHanded_of_change (C := Try.checked) own started (by kernel_rfl) Try.func8
    (ChangeSpec.witness6 (enc := enc) (C := Try.checked) false ⟨#[], #[.int .i64 0, .int .i64 0], []⟩ 8 (by kernel_rfl) (by kernel_rfl) (by kernel_rfl) (by kernel_rfl)) ?_
  intro W base args ds gs before hval0 hW hcnd _
  have hval : ∀ (j : Nat) t v, Try.f8.params[j]? = some t → args[j]? = some v → Value.okWide Try.prog W .any base t v := hval0
  have hW' := hW
  obtain ⟨p, q, hA0, hV, rfl, hfz, hnd⟩ := hW
  have hA : DataW.TrodAll enc Try.prog W 0 (fun _ => true) true Try.f8.params.toList args.toList ds p := hA0
  rw [Try.params8] at hA hval
  obtain ⟨v0, vs0, d0, ds0, p0, q0, hargs, rfl, rfl, h0, r0⟩ := trodAll_cons hA
  obtain ⟨v1, vs1, d1, ds1, p1, q1, rfl, rfl, rfl, h1, r1⟩ := trodAll_cons r0
  obtain ⟨rfl, rfl, rfl⟩ := trodAll_nil r1
  obtain rfl : args = #[v0, v1] := by cases args; simp_all
  obtain ⟨rfl, rfl⟩ := trodVars_none hV
  obtain ⟨a0, rfl, rfl, rfl, w0⟩ := open_int Try.underlying3 (hval 0 3 v0 rfl rfl) h0
  obtain ⟨a1, rfl, rfl, rfl, w1⟩ := open_int Try.underlying3 (hval 1 3 v1 rfl rfl) h1
  clear hA0 hval0
  simp only [List.append_nil] at hW'
  refine (walk a0 a1 w0 w1 W).mono fun e W' ⟨he, hg⟩ => ?_
  subst he
  exact ⟨_, rfl, _, _, _, [], _, [], hW', trodAll_mk1 (shut_bool Try.underlying4 _), (trodAll_cons_mk (shut_int Try.underlying3 w0) (trodAll_cons_mk (shut_int Try.underlying3 w1) trodAll_mk0)), rfl, hg.frame _, fun h => by cases h⟩

theorem over : Rows.rateNoneRow.holds Try.pinned (OpenSpec.ofChange Rows.rateNoneSpec) :=
  OpenClaim.holds_of_wide 8 Try.f8 rfl rfl rfl rfl rfl rfl rfl ⟨rfl, rfl, rfl, rfl, rfl⟩ rfl rfl rfl rfl rfl (by kernel_rfl) Try.func8 (by kernel_rfl)
    (of_decide_eq_true (by kernel_rfl)) (by unfold Func.isWrapper; first | (rw [if_pos (by decide +kernel)]; kernel_rfl) | (rw [if_neg (by decide +kernel)]; exact ⟨rfl, rfl⟩))
    (fun os started H enc _ => lifted os started H enc)

/-- ████ THE STATEMENT ████ -/
theorem proved : Rows.RateNoneSaid :=
  over
#print axioms proved
end Go.Proofs.Ytgmeopkkdlajnaa.rateNone
