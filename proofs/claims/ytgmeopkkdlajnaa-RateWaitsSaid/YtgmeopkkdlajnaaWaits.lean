/- RateWaits: who waits for long enough may take. No condition beside the row's own. -/
import Derived.Test.YtgmeopkkdlajnaaRows
import Derived.Test.YtgmeopkkdlajnaaC
import Derived.Below
import Derived.ProofKit
import Derived.OpenShut
namespace Go.Proofs.Ytgmeopkkdlajnaa.rateWaits
open Go.ChangeShapes Go.WideShapes Go.ChangeAt Go.RowKit
set_option linter.unusedVariables false      -- a walk need not use every 'w<i>' (that an integer argument fits its kind)

theorem own : ownKnob Try.prog.godebug = none := by kernel_rfl

open Go.Proofs.YtgmeopkkdlajnaaW.PrintWords Go.Proofs.YtgmeopkkdlajnaaW.PrintLast Go.Proofs.YtgmeopkkdlajnaaW.PrintMore
open PRateActs (IsS39)
attribute [local go_sem] max2_int min2_int
set_option maxRecDepth 100000 in
set_option maxHeartbeats 1000000 in
theorem walk (a0 : Int) (a1 : Int) (a2 : Int) (w0 : (Lit.int .u8 a0).wf = true) (w1 : (Lit.int .u16 a1).wf = true) (w2 : (Lit.int .u8 a2).wf = true) (w : World) :
    Calls Try.prog 5 #[.int .u8 a0, .int .u16 a1, .int .u8 a2] w fun e w' => e = .returned (.bool true) ∧ Below w.heap.size w w' := by
  have b0 : 0 ≤ a0 ∧ a0 ≤ 255 := by simpa [Lit.wf, IntKind.min, IntKind.max, IntKind.signed, IntKind.bits] using w0
  have b1 : 0 ≤ a1 ∧ a1 ≤ 65535 := by simpa [Lit.wf, IntKind.min, IntKind.max, IntKind.signed, IntKind.bits] using w1
  have b2 : 0 ≤ a2 ∧ a2 ≤ 255 := by simpa [Lit.wf, IntKind.min, IntKind.max, IntKind.signed, IntKind.bits] using w2
  obtain ⟨b00, b01⟩ := b0
  obtain ⟨b10, b11⟩ := b1
  obtain ⟨b20, b21⟩ := b2
  clear w0 w1 w2
  have x0 : 0 ≤ (a0 % 200) := by omega
  have x1 : (a0 % 200) ≤ 199 := by omega
  have y0 : 0 ≤ (a1 % 300) := by omega
  have y1 : (a1 % 300) ≤ 299 := by omega
  have z0 : 0 ≤ (a2 % 4) := by omega
  have z1 : (a2 % 4) ≤ 3 := by omega
  have m0 : 1 ≤ ((a0 % 200) + 1) * (1 + (a2 % 4)) := by
    have : 1 * 1 ≤ ((a0 % 200) + 1) * (1 + (a2 % 4)) := Int.mul_le_mul (by omega) (by omega) (by omega) (by omega)
    omega
  have m1 : ((a0 % 200) + 1) * (1 + (a2 % 4)) ≤ 800 := by
    have : ((a0 % 200) + 1) * (1 + (a2 % 4)) ≤ 200 * 4 := Int.mul_le_mul (by omega) (by omega) (by omega) (by omega)
    omega
  obtain ⟨F, hF⟩ : ∃ F, mn ((a1 % 300) + 1) (((a0 % 200) + 1) * (1 + (a2 % 4))) = F := ⟨_, rfl⟩
  have hF_ : (if ((a0 % 200) + 1) * (1 + (a2 % 4)) < (a1 % 300) + 1 then ((a0 % 200) + 1) * (1 + (a2 % 4)) else (a1 % 300) + 1) = F := hF
  have f0 : 1 ≤ F := by rw [← hF]; unfold mn; split <;> omega
  have f1 : F ≤ 800 := by rw [← hF]; unfold mn; split <;> omega
  have HR := Aside0.mk (show nR ((a0 % 200) + 1) = (a0 % 200) + 1 from by unfold nR mn mx; (repeat' split) <;> omega)
  have HBU := Aside0.mk (show nB ((a1 % 300) + 1) = (a1 % 300) + 1 from by unfold nB mn mx; (repeat' split) <;> omega)
  have ok0 := new_ok ((a0 % 200) + 1) ((a1 % 300) + 1)
  rw [HR.out, HBU.out] at ok0
  have OKe : ∀ l a : Int, 0 ≤ l → l ≤ (a1 % 300) + 1 → 0 ≤ a → a ≤ 4 → Aside0 (Okb ((a0 % 200) + 1) ((a1 % 300) + 1) l a) := fun l a _ _ _ _ => Aside0.mk (by constructor <;> omega)
  have OKE := Aside0.mk OKe
  have OK0 := Aside0.mk ok0
  have T1 := Aside0.mk (show tAt 0 (1 + (a2 % 4)) = 1 + (a2 % 4) from tAt_in (by omega) (by omega))
  have T2 := Aside0.mk (show tAt (1 + (a2 % 4)) (1 + (a2 % 4)) = 1 + (a2 % 4) from tAt_in (by omega) (by omega))
  have L1 := Aside0.mk (show lAt ((a0 % 200) + 1) ((a1 % 300) + 1) 0 0 (1 + (a2 % 4)) = F from by
    unfold lAt; rw [T1.out, ← hF]; unfold mn
    rw [show (0 : Int) + ((a0 % 200) + 1) * (1 + (a2 % 4) - 0) = ((a0 % 200) + 1) * (1 + (a2 % 4)) from by rw [Int.zero_add, Int.sub_zero]]
    split <;> split <;> omega)
  have hFy : F ≤ (a1 % 300) + 1 := by rw [← hF]; unfold mn; split <;> omega
  have HFY := Aside0.mk hFy
  clear hF ok0 OKe hFy
  go_enter Try.func5, Try.ntmps5
  go_wp2_with fail
  refine (awake_calls _).mono ?_
  rintro e w1 ⟨rfl, B1⟩
  replace B1 := Aside0.mk B1
  go_wp2_with fail
  refine (new_v _ _ _ _ HR.out HBU.out B1.out).mono ?_
  rintro e w2 ⟨g, rfl, I2, B2, _⟩
  clear B1
  go_wp2_with fail
  go_loopw [25] (fun i wr => ∃ k : Nat, k ≤ 400 ∧ i = .int .i64 k ∧ ∃ l : Int, Aside0 (0 ≤ l ∧ l ≤ (a1 % 300) + 1 ∧ l + k ≤ 400 ∨ l = 0) ∧ Aside0 (IsS39 w wr g ((a0 % 200) + 1) ((a1 % 300) + 1) l 0) ∧ Aside0 (Below w.heap.size w wr)) (fun i _ => 400 - (intOf i).toNat)
  case atStart => exact ⟨0, by omega, rfl, (a1 % 300) + 1, Aside0.mk (by omega), I2, B2⟩
  case round =>
    obtain ⟨k, hk, rfl, l, HL, I, B⟩ := hrel
    clear I2 B2 OK0
    have OK := OKE.out l 0 (by have := HL.out; omega) (by have := HL.out; omega) (by omega) (by omega)
    by_cases hlt : k < 400
    · have R := Aside0.mk (rest_stay OK.out (x := 0) tAt_0)
      have HL2 : Aside0 (0 ≤ (if l = 0 then 0 else l - 1) ∧ (if l = 0 then 0 else l - 1) ≤ (a1 % 300) + 1 ∧ (if l = 0 then 0 else l - 1) + ((k + 1 : Nat) : Int) ≤ 400 ∨ (if l = 0 then 0 else l - 1) = 0) := Aside0.mk (by have := HL.out; split <;> omega)
      generalize (if l = 0 then 0 else l - 1) = l2 at *
      go_wp2_with fail
      refine (take_v OK.out 0 _ l2 0 rfl R.out tAt_0 B.out I.out).mono ?_
      rintro e w4 ⟨rfl, I4, B4, K4⟩
      clear I B K4 R
      go_wp2_with fail
      go_roundw
      case rel => exact ⟨k + 1, by omega, by go_num, l2, HL2, I4, B4⟩
      case measure => simp [intOf]; omega
    · have : k = 400 := by omega
      subst this
      have : l = 0 := by have := HL.out; omega
      subst this
      have L0 := Aside0.mk (lAt_stay OK.out (x := 0) tAt_0)
      have R0 := Aside0.mk (rest_stay OK.out (x := 0) tAt_0)
      have K0 := Aside0.mk (took_stay OK.out (x := 0) tAt_0)
      have OK2 := OKE.out F (1 + (a2 % 4)) (by omega) HFY.out (by omega) (by omega)
      have R2 := Aside0.mk (show restAt ((a0 % 200) + 1) ((a1 % 300) + 1) F (1 + (a2 % 4)) (1 + (a2 % 4)) = F - 1 from by rw [rest_stay OK2.out T2.out, if_neg (by omega)])
      have K2 := Aside0.mk (show tookAt ((a0 % 200) + 1) ((a1 % 300) + 1) F (1 + (a2 % 4)) (1 + (a2 % 4)) = true from by rw [took_stay OK2.out T2.out]; simp; omega)
      have OK3 := OKE.out (F - 1) (1 + (a2 % 4)) (by omega) (by have := HFY.out; omega) (by omega) (by omega)
      have L3 := Aside0.mk (lAt_stay OK3.out T2.out)
      go_wp2_with fail
      refine (left_v OK.out 0 0 0 L0.out tAt_0 B.out I.out).mono ?_
      rintro e w4 ⟨rfl, I4, B4, K4⟩
      clear I B K4
      go_wp2_with fail
      refine (take_v OK.out 0 false 0 0 K0.out R0.out tAt_0 B4.out I4.out).mono ?_
      rintro e w5 ⟨rfl, I5, B5, K5⟩
      clear I4 B4 K5
      go_wp2_with fail
      refine (left_v OK.out (1 + (a2 % 4)) F (1 + (a2 % 4)) L1.out T1.out B5.out I5.out).mono ?_
      rintro e w6 ⟨rfl, I6, B6, K6⟩
      clear I5 B5 K6
      go_wp2_with fail
      refine (take_v OK2.out (1 + (a2 % 4)) true (F - 1) (1 + (a2 % 4)) K2.out R2.out T2.out B6.out I6.out).mono ?_
      rintro e w7 ⟨rfl, I7, B7, K7⟩
      clear I6 B6 K7
      go_wp2_with fail
      refine (left_v OK3.out (1 + (a2 % 4)) (F - 1) (1 + (a2 % 4)) L3.out T2.out B7.out I7.out).mono ?_
      rintro e w8 ⟨rfl, I8, B8, K8⟩
      go_wp2_with fail
      go_ret
      exact ⟨by simp, B8.out⟩

/-! ### THE ROW's STEP: WRITTEN OUT: LEAVE IT -/
set_option maxRecDepth 100000 in
theorem lifted (os : Os) (started : os.Started) (H : Type) (enc : TypeId × Value → H) :
    ReturnsInHanded {} Try.checked os 5 .any (Rows.rateWaitsSpec.pre6 enc Try.prog Try.f5 Rows.rateWaitsRow.domain false) (Rows.rateWaitsSpec.post enc Try.prog Try.f5 false true false false) := by
  refine returnsInHanded_of_change (C := Try.checked) own started (by kernel_rfl) Try.func5
    (ChangeSpec.witness6 (enc := enc) (C := Try.checked) false ⟨#[], #[.int .u8 0, .int .u16 0, .int .u8 0], []⟩ 8 (by kernel_rfl) (by kernel_rfl) (by kernel_rfl) (by kernel_rfl)) ?_
  intro W base args ds gs before hval0 hW hcnd _
  have hval : ∀ (j : Nat) t v, Try.f5.params[j]? = some t → args[j]? = some v → Value.okWide Try.prog W .any base t v := hval0
  have hW' := hW
  obtain ⟨p, q, hA0, hV, rfl, hfz, hnd⟩ := hW
  have hA : DataW.TrodAll enc Try.prog W 0 (fun _ => true) true Try.f5.params.toList args.toList ds p := hA0
  rw [Try.params5] at hA hval
  obtain ⟨v0, vs0, d0, ds0, p0, q0, hargs, rfl, rfl, h0, r0⟩ := trodAll_cons hA
  obtain ⟨v1, vs1, d1, ds1, p1, q1, rfl, rfl, rfl, h1, r1⟩ := trodAll_cons r0
  obtain ⟨v2, vs2, d2, ds2, p2, q2, rfl, rfl, rfl, h2, r2⟩ := trodAll_cons r1
  obtain ⟨rfl, rfl, rfl⟩ := trodAll_nil r2
  obtain rfl : args = #[v0, v1, v2] := by cases args; simp_all
  obtain ⟨rfl, rfl⟩ := trodVars_none hV
  obtain ⟨a0, rfl, rfl, rfl, w0⟩ := open_int Try.underlying5 (hval 0 5 v0 rfl rfl) h0
  obtain ⟨a1, rfl, rfl, rfl, w1⟩ := open_int Try.underlying33 (hval 1 33 v1 rfl rfl) h1
  obtain ⟨a2, rfl, rfl, rfl, w2⟩ := open_int Try.underlying5 (hval 2 5 v2 rfl rfl) h2
  clear hA0 hval0
  simp only [List.append_nil] at hW'
  refine (walk a0 a1 a2 w0 w1 w2 W).mono fun e W' ⟨he, hg⟩ => ?_
  subst he
  exact ⟨_, rfl, _, _, _, [], _, [], hW', trodAll_mk1 (shut_bool Try.underlying4 _), (trodAll_cons_mk (shut_int Try.underlying5 w0) (trodAll_cons_mk (shut_int Try.underlying33 w1) (trodAll_cons_mk (shut_int Try.underlying5 w2) trodAll_mk0))), rfl, hg.frame _, fun h => by cases h⟩

theorem over : Rows.rateWaitsRow.holds Try.pinned (OpenSpec.ofChange Rows.rateWaitsSpec) :=
  OpenClaim.holds_of_wide 5 Try.f5 rfl rfl rfl rfl rfl rfl rfl ⟨rfl, rfl, rfl, rfl, rfl⟩ rfl rfl rfl rfl rfl (by kernel_rfl) Try.func5 (by kernel_rfl)
    (of_decide_eq_true (by kernel_rfl)) (by unfold Func.isWrapper; first | (rw [if_pos (by decide +kernel)]; kernel_rfl) | (rw [if_neg (by decide +kernel)]; exact ⟨rfl, rfl⟩))
    (fun os started H enc _ => lifted os started H enc)

/-- ████ THE STATEMENT ████ -/
theorem proved : Rows.RateWaitsSaid :=
  over
#print axioms proved
end Go.Proofs.Ytgmeopkkdlajnaa.rateWaits
