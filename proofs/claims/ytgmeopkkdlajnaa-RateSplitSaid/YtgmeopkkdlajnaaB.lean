/- What every statement of the bucket asks first: 'awake' answers true. -/
import Derived.Test.YtgmeopkkdlajnaaA
namespace Go.Proofs.Ytgmeopkkdlajnaa
open Go.RowKit Go.Proofs.YtgmeopkkdlajnaaW.PrintWords Go.Proofs.YtgmeopkkdlajnaaW.PrintLast Go.Proofs.YtgmeopkkdlajnaaW.PrintMore
open PRateActs (IsS39 cellS39_0 cellS39_1 cellS39_2 cellS39_3)
attribute [local go_sem] max2_int min2_int

theorem take_v {r bu l a : Int} (ok : Okb r bu l a) (now : Int) (b : Bool) (l' a' : Int) (hb : tookAt r bu l a now = b) (hl : restAt r bu l a now = l') (ha : tAt a now = a') {g : Nat} {w0 w : World} (hB : Below w0.heap.size w0 w) (hI : IsS39 w0 w g r bu l a) :
    Calls Try.prog 12 #[.pointer (some ⟨g, 0, none⟩), .int .i64 now] w fun e w' => e = .returned (.bool b) ∧ Aside0 (IsS39 w0 w' g r bu l' a') ∧ Aside0 (Below w0.heap.size w0 w') ∧ Aside0 (Kept w w' (· = g)) := by
  subst hb hl ha
  exact (take_calls ok now g w0 w hB hI).mono fun e w' ⟨h1, h2, h3, h4⟩ => ⟨h1, Aside0.mk h2, Aside0.mk h3, Aside0.mk h4⟩

theorem left_v {r bu l a : Int} (ok : Okb r bu l a) (now : Int) (l' a' : Int) (hl : lAt r bu l a now = l') (ha : tAt a now = a') {g : Nat} {w0 w : World} (hB : Below w0.heap.size w0 w) (hI : IsS39 w0 w g r bu l a) :
    Calls Try.prog 13 #[.pointer (some ⟨g, 0, none⟩), .int .i64 now] w fun e w' => e = .returned (.int .i64 l') ∧ Aside0 (IsS39 w0 w' g r bu l' a') ∧ Aside0 (Below w0.heap.size w0 w') ∧ Aside0 (Kept w w' (· = g)) := by
  subst hl ha
  exact (left_calls ok now g w0 w hB hI).mono fun e w' ⟨h1, h2, h3, h4⟩ => ⟨h1, Aside0.mk h2, Aside0.mk h3, Aside0.mk h4⟩

/-- A new bucket's numbers. -/
def nR (r : Int) : Int := mn (mx r 0) 1000
def nB (b : Int) : Int := mn (mx b 1) 1000
theorem new_ok (r b : Int) : Okb (nR r) (nB b) (nB b) 0 := by
  have h1 : 0 ≤ nR r ∧ nR r ≤ 1000 := by unfold nR mn mx; split <;> split <;> omega
  have h2 : 1 ≤ nB b ∧ nB b ≤ 1000 := by unfold nB mn mx; split <;> split <;> omega
  constructor <;> omega
theorem new_v (r b r' b' : Int) (hr : nR r = r') (hb : nB b = b') {w0 w : World} (hB : Below w0.heap.size w0 w) :
    Calls Try.prog 10 #[.int .i64 r, .int .i64 b] w fun e w' => ∃ g : Nat, e = .returned (.pointer (some ⟨g, 0, none⟩)) ∧ Aside0 (IsS39 w0 w' g r' b' b' 0) ∧ Aside0 (Below w0.heap.size w0 w') ∧ Aside0 (Below w.heap.size w w') ∧ Aside0 (w.heap.size ≤ g) := by
  subst hr hb
  exact (PRateActs.rate_New.calls r b _ _ _ _ w w (Below.refl _ _) rfl).mono fun e w' ⟨g, h1, h2, h3, _⟩ => ⟨g, h1, Aside0.mk ⟨h2.1, Nat.le_trans hB.size h2.2⟩, Aside0.mk (hB.trans (h3.mono hB.size)), Aside0.mk h3, Aside0.mk h2.ge⟩

set_option maxHeartbeats 1000000 in
theorem awake_calls (w : World) : Calls Try.prog 9 #[] w fun e w' => e = .returned (.bool true) ∧ Below w.heap.size w w' := by
  go_enter Try.func9, Try.ntmps9
  go_wp2_with fail
  refine (new_v 1 2 1 2 rfl rfl (Below.refl w.heap.size w)).mono ?_
  rintro e w1 ⟨g, rfl, I1, B1, _⟩
  go_wp2_with fail
  refine (take_v (by constructor <;> omega) 0 true 1 0 (by decide) (by decide) (by decide) B1.out I1.out).mono ?_
  rintro e w2 ⟨rfl, I2, B2, _⟩
  go_wp2_with fail
  refine (take_v (by constructor <;> omega) 0 true 0 0 (by decide) (by decide) (by decide) B2.out I2.out).mono ?_
  rintro e w3 ⟨rfl, I3, B3, _⟩
  go_wp2_with fail
  refine (take_v (by constructor <;> omega) 0 false 0 0 (by decide) (by decide) (by decide) B3.out I3.out).mono ?_
  rintro e w4 ⟨rfl, I4, B4, _⟩
  go_wp2_with fail
  refine (take_v (by constructor <;> omega) 1 true 0 1 (by decide) (by decide) (by decide) B4.out I4.out).mono ?_
  rintro e w5 ⟨rfl, I5, B5, _⟩
  go_wp2_with fail
  go_ret
  exact ⟨rfl, B5.out⟩
end Go.Proofs.Ytgmeopkkdlajnaa
