/- index.Check: whether a description may be. -/
import Derived.Test.YtecfaaeaipjlaaaGreatDoorPathParse
import Derived.Test.YtecfaaeaipjlaaaGreatDoorPathFind
namespace Go.Proofs.YtecfaaeaipjlaaaGreatDoor
open Go.RowKit

/-- May a name have this letter? -/
def signD (r : Nat) : Bool := (decide (97 ≤ r) && decide (r ≤ 122)) || (decide (48 ≤ r) && decide (r ≤ 57)) || decide (r = 95)
set_option maxRecDepth 100000 in
set_option maxHeartbeats 4000000 in
theorem sign_calls (r : Nat) (w : World) : Calls Tryz.prog 68 #[.int .i32 (r : Int)] w fun e w' => e = .returned (.bool (signD r)) ∧ w' = w := by
  have hs : signD r = ((decide (97 ≤ (r : Int)) && decide ((r : Int) ≤ 122)) || (decide (48 ≤ (r : Int)) && decide ((r : Int) ≤ 57)) || ((r : Int) == 95)) := by
    unfold signD
    congr 1
    · congr 1 <;> congr 1 <;> rw [decide_eq_decide] <;> omega
    · rw [Bool.eq_iff_iff]; simp; omega
  rw [hs]
  generalize (r : Int) = R
  go_enter Tryz.func68, Tryz.ntmps68
  go_wp2_with fail
  all_goals
    go_ret
    exact ⟨by (simp [*]; try (first | (rw [Bool.eq_iff_iff]; simp; first | omega | (intro h; omega)) | (intro h; omega) | omega)), rfl⟩
set_option maxRecDepth 100000 in
set_option maxHeartbeats 4000000 in
theorem chk1_calls (r : Nat) (w : World) : Calls Tryz.prog 67 #[.int .i32 (r : Int)] w fun e w' => e = .returned (.bool (!signD r)) ∧ w' = w := by
  have HS := Ap.of (sign_calls r w)
  generalize signD r = b at *
  go_enter Tryz.func67, Tryz.ntmps67
  go_wp2_with fail
  refine HS.out.mono ?_
  rintro e w1 ⟨rfl, rfl⟩
  go_wp2_with fail
  go_ret
  exact ⟨rfl, rfl⟩
/-- Has a name a byte that it may not have? -/
def oddN (s : ByteArray) : Bool := decide (0 ≤ Lib.idxFunc (fun r => !signD r) true s)
theorem oddN_calls (s : ByteArray) (w : World) : Calls Tryz.prog 66 #[.string s, .func (.func 67) #[] #[]] w fun e w' => e = .returned (.bool (oddN s)) ∧ Below w.heap.size w w' :=
  Tryz.strings_ContainsFunc 67 #[] (enters_of Tryz.func67 (by kernel_rfl) (by rfl)) (fun r => !signD r) s w (fun W x _ => (chk1_calls x W).mono (fun _ _ h => ⟨h.1, 0, h.2⟩))
theorem parse_callsQ (s : ByteArray) (w : World) (hs : s.size < 4294967281) (G : ParG w) : Calls Tryz.prog 69 #[.string s] w (ParseP s w) := by
  obtain ⟨m, hm⟩ := G.ml
  exact parse_calls s m w hs hm (fun w' hb => (G.below hb).ut)
set_option maxRecDepth 100000 in
set_option maxHeartbeats 4000000 in
/-- A good description. -/
theorem check_ok (nm pt : ByteArray) (un : Bool) (w : World) (G : ParG w) (h1 : oddN nm = false) (h2 : nm.toList ≠ []) (h3 : nm.size ≤ 16) (h4 : pathOk pt = true) (h5 : pt.size < 4294967281) :
    Calls Tryz.prog 36 #[.agg #[.string nm, .string pt, .bool un]] w fun e w' => e = .returned .nilIface ∧ Below w.heap.size w w' := by
  have t2 : (nm.toList == []) = false := by simpa using h2
  have t3 : decide ((16 : Int) < (nm.size : Int)) = false := by simp; omega
  have hb := bel_alloc w (.cells #[.string nm, .string pt, .bool un] 30)
  have B1 := Ap.of (blk_new (w := w) (k := w.heap.size) (o := .cells #[.string nm, .string pt, .bool un] 30) rfl)
  have HO := Ap.of (oddN_calls nm (w.alloc (.cells #[.string nm, .string pt, .bool un] 30)))
  rw [h1] at HO
  have HP := Ap.of (fun W (hW : Below w.heap.size w W) => parse_callsQ pt W h5 (G.below hW))
  have HB := Ap.of hb
  have H4 := Ap.of h4
  clear G h1 h2 h3 h4 h5 hb
  go_enter Tryz.func36, Tryz.ntmps36
  go_wp2_with fail
  refine HO.out.mono ?_
  rintro e w1 ⟨rfl, hb⟩
  have HB1 := Ap.of (bel_step HB.out hb)
  have b1 := blk_bel B1.out hb
  have c1 := blk_cells b1
  have BB1 := Ap.of b1
  clear b1 hb
  go_wp2_with fail
  refine (HP.out _ HB1.out).mono ?_
  rintro e w2 h
  rcases h with ⟨_, g, rfl, _, _, hb⟩ | ⟨hf, _⟩
  · have HB2 := Ap.of (bel_step HB1.out hb)
    clear hb
    go_wp2_with fail
    refine (wrap_nil _ _).mono ?_
    rintro e w3 ⟨rfl, rfl⟩
    go_wp2_with fail
    go_ret
    exact ⟨rfl, HB2.out⟩
  · rw [H4.out] at hf; cases hf
set_option maxRecDepth 100000 in
set_option maxHeartbeats 4000000 in
/-- A name with a byte that it may not have. -/
theorem check_odd (nm pt : ByteArray) (un : Bool) (w : World) (h1 : oddN nm = true) :
    Calls Tryz.prog 36 #[.agg #[.string nm, .string pt, .bool un]] w fun e w' => ∃ g, e = .returned (.iface 129 (.pointer (some ⟨g, 0, none⟩))) ∧ ErrAt w' 1 5 (.iface 129 (.pointer (some ⟨g, 0, none⟩))) ∧ Below w.heap.size w w' := by
  have hb := bel_alloc w (.cells #[.string nm, .string pt, .bool un] 30)
  have HO := Ap.of (oddN_calls nm (w.alloc (.cells #[.string nm, .string pt, .bool un] 30)))
  rw [h1] at HO
  have HB := Ap.of hb
  clear h1 hb
  go_enter Tryz.func36, Tryz.ntmps36
  go_wp2_with fail
  refine HO.out.mono ?_
  rintro e w1 ⟨rfl, hb⟩
  have HB1 := Ap.of (bel_step HB.out hb)
  clear hb
  go_wp2_with fail
  refine (new_calls 5 (by decide) _ _).mono ?_
  rintro e w2 ⟨rfl, rfl⟩
  go_wp2_with fail
  go_ret
  exact ⟨_, rfl, ⟨_, _, _, rfl, blk_new rfl, rfl⟩, bel_step HB1.out (bel_alloc _ _)⟩
set_option maxRecDepth 100000 in
set_option maxHeartbeats 4000000 in
/-- A path that is none. -/
theorem check_path (nm pt : ByteArray) (un : Bool) (w : World) (G : ParG w) (h1 : oddN nm = false) (h2 : nm.toList ≠ []) (h3 : nm.size ≤ 16) (h4 : pathOk pt = false) (h5 : pt.size < 4294967281) :
    Calls Tryz.prog 36 #[.agg #[.string nm, .string pt, .bool un]] w fun e w' => ∃ g, e = .returned (.iface 129 (.pointer (some ⟨g, 0, none⟩))) ∧ ErrAt w' 2 6 (.iface 129 (.pointer (some ⟨g, 0, none⟩))) ∧ Below w.heap.size w w' := by
  have t2 : (nm.toList == []) = false := by simpa using h2
  have t3 : decide ((16 : Int) < (nm.size : Int)) = false := by simp; omega
  have hb := bel_alloc w (.cells #[.string nm, .string pt, .bool un] 30)
  have B1 := Ap.of (blk_new (w := w) (k := w.heap.size) (o := .cells #[.string nm, .string pt, .bool un] 30) rfl)
  have HO := Ap.of (oddN_calls nm (w.alloc (.cells #[.string nm, .string pt, .bool un] 30)))
  rw [h1] at HO
  have HP := Ap.of (fun W (hW : Below w.heap.size w W) => parse_callsQ pt W h5 (G.below hW))
  have HB := Ap.of hb
  have H4 := Ap.of h4
  clear G h1 h2 h3 h4 h5 hb
  go_enter Tryz.func36, Tryz.ntmps36
  go_wp2_with fail
  refine HO.out.mono ?_
  rintro e w1 ⟨rfl, hb⟩
  have HB1 := Ap.of (bel_step HB.out hb)
  have b1 := blk_bel B1.out hb
  have c1 := blk_cells b1
  have BB1 := Ap.of b1
  clear b1 hb
  go_wp2_with fail
  refine (HP.out _ HB1.out).mono ?_
  rintro e w2 h
  rcases h with ⟨hf, _⟩ | ⟨_, g, rfl, he, hb⟩
  · rw [H4.out] at hf; cases hf
  · have HB2 := Ap.of (bel_step HB1.out hb)
    have HE := Ap.of he
    clear hb he
    go_wp2_with fail
    refine (wrap_some _ _ _).mono ?_
    rintro e w3 ⟨rfl, rfl⟩
    go_wp2_with fail
    go_ret
    exact ⟨_, rfl, ⟨_, _, _, rfl, blk_new rfl, HE.out.below (bel_alloc _ _)⟩, bel_step HB2.out (bel_alloc _ _)⟩
end Go.Proofs.YtecfaaeaipjlaaaGreatDoor
