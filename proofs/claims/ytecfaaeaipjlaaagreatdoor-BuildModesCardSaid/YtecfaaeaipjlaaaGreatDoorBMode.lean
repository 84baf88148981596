/- roundelaylaw21.BuildModes returns true, whatever the phase: its walk. -/
import Derived.Test.YtecfaaeaipjlaaaGreatDoorAwk
namespace Go.Proofs.YtecfaaeaipjlaaaGreatDoor
open Go.RowKit

set_option maxRecDepth 100000 in
set_option maxHeartbeats 4000000 in
theorem buildmodes_calls (p : Int) (w : World) (G : ParG w) : Calls Tryz.prog 3 #[.int .i64 p] w fun e w' => e = .returned (.bool true) ∧ Below w.heap.size w w' := by
  have HA := Ap.of (awake21_calls w G)
  clear G
  obtain ⟨v, hv⟩ : ∃ v : Int, v = if p = 0 ∨ p = 1 then 2 else if p = 2 then 3 else if p = 3 then 4 else 0 := ⟨_, rfl⟩
  have HM := Ap.of (fun W => mode_calls p v W hv)
  have hp : p = 0 ∨ p = 1 ∨ p = 2 ∨ p = 3 ∨ ((p == 0) = false ∧ (p == 1) = false ∧ (p == 2) = false ∧ (p == 3) = false) := by simp; omega
  rcases hp with rfl | rfl | rfl | rfl | ⟨h0, h1, h2, h3⟩
  case inr.inr.inr.inr =>
    have e0 : v = 0 := by
      rw [hv]
      simp at h0 h1 h2 h3
      simp [h0, h1, h2, h3]
    clear hv
    subst e0
    go_enter Tryz.func3, Tryz.ntmps3
    go_wp2_with fail
    refine HA.out.mono ?_
    rintro e w1 ⟨rfl, hb⟩
    have HB := Ap.of hb
    clear hb
    go_wp2_with fail
    refine (HM.out _).mono ?_
    rintro e w2 ⟨rfl, rfl⟩
    go_wp2_with fail
    go_ret
    exact ⟨rfl, HB.out⟩
  all_goals
    simp at hv
    subst hv
    go_enter Tryz.func3, Tryz.ntmps3
    go_wp2_with fail
    refine HA.out.mono ?_
    rintro e w1 ⟨rfl, hb⟩
    have HB := Ap.of hb
    clear hb
    go_wp2_with fail
    refine (HM.out _).mono ?_
    rintro e w2 ⟨rfl, rfl⟩
    go_wp2_with fail
    go_ret
    exact ⟨rfl, HB.out⟩
end Go.Proofs.YtecfaaeaipjlaaaGreatDoor
