/- roundelaylaw21.BuildTwice returns true, whatever the bytes and the text: its walk. -/
import Derived.Test.YtecfaaeaipjlaaaGreatDoorTw1
import Derived.Test.YtecfaaeaipjlaaaGreatDoorTw2
import Derived.Deep.LoopGhost
import Derived.Laws.StructEq
namespace Go.Proofs.YtecfaaeaipjlaaaGreatDoor
open Go.RowKit
attribute [local go_sem] max2_int min2_int

/-! ### An error stays what it is while an index is built -/
theorem errAt_kp {base : Nat} {w w' : World} (K : Kp base w w') : ∀ {d : Nat} {c : Int} {err : Value}, ErrAt w d c err → ErrAt w' d c err
  | 0, _, _, h => h
  | _ + 1, _, _, ⟨b, p, x, he, hb, hx⟩ => ⟨b, p, x, he, K.keep _ _ _ _ hb (by decide) (by decide) (by decide), errAt_kp K hx⟩
theorem eqB0 : ∀ W : World, (Op.equalIn 10000 33 (.agg #[.string ⟨#[]⟩, .string ⟨#[]⟩, .bool false, .int .i64 0]) (.agg #[.string ⟨#[]⟩, .string ⟨#[]⟩, .bool false, .int .i64 0])).run Tryz.prog W = .ok true W := fun W => by kernel_rfl
theorem gdBuild (x y : Operand) (xs ys : Array Value) (w : World) : (eqGuard .eql 33 x y (.agg xs) (.agg ys)).run Tryz.prog w = .ok () w := run_eqGuard_agg w .eql 33 x y xs ys (by kernel_rfl)
/-! ### The lists behind a build -/
set_option maxRecDepth 100000 in
set_option maxHeartbeats 4000000 in
theorem ready_calls (c h m : Nat) (ln : Int) (nm pt : ByteArray) (un : Bool) (af : Int) (w : World) (H : Rdy w c h m ln nm pt un af) :
    Calls Tryz.prog 14 #[.pointer (some ⟨c, 0, none⟩)] w fun e w' => (∃ A k, e = .returned (.slice A 1 k)) ∧ Below w.heap.size w w' := by
  obtain ⟨R, g, k, t, q, hc, _, hR, _, _, hm⟩ := H
  have HS := Ap.of (specs1_calls m t q R nm pt un true af w hR hm)
  have cc := blk_cells hc
  clear hR hm hc
  go_enter Tryz.func14, Tryz.ntmps14
  go_wp2_with fail
  refine HS.out.mono ?_
  rintro e w1 ⟨A, k, rfl, hb⟩
  have HB := Ap.of hb
  clear hb
  go_wp2_with fail
  go_ret
  exact ⟨⟨_, _, rfl⟩, HB.out⟩
set_option maxRecDepth 100000 in
set_option maxHeartbeats 4000000 in
theorem building_calls (c h m : Nat) (ln : Int) (nm pt : ByteArray) (un : Bool) (af : Int) (w : World) (H : Rdy w c h m ln nm pt un af) :
    Calls Tryz.prog 15 #[.pointer (some ⟨c, 0, none⟩)] w fun e w' => e = .returned (.slice none 0 0) ∧ w' = w := by
  obtain ⟨R, g, k, t, q, hc, _⟩ := H
  have HS := Ap.of (specs0_calls (some ⟨g, 0, none⟩) k w)
  have cc := blk_cells hc
  clear hc
  go_enter Tryz.func15, Tryz.ntmps15
  go_wp2_with fail
  refine HS.out.mono ?_
  rintro e w1 ⟨rfl, rfl⟩
  go_wp2_with fail
  go_ret
  exact ⟨rfl, rfl⟩
end Go.Proofs.YtecfaaeaipjlaaaGreatDoor
