/- roundelaylaw02.Mend. -/
import Derived.Test.YtlomieopppndeaaDoorMendLaw
import Derived.Test.YtlomieopppndeaaDoorBase
namespace Go.Proofs.YtlomieopppndeaaDoor
open Go.RowKit

/-- A text, mended. -/
def mendB (s : ByteArray) : ByteArray := ⟨(mendL s.data.toList).toArray⟩

theorem size_list (s : ByteArray) : s.data.toList.length = s.size := Array.length_toList
theorem ba_eta (s : ByteArray) : (⟨s.data.toList.toArray⟩ : ByteArray) = s := by cases s; simp
theorem drop_ne {s : ByteArray} {pos : Nat} (hp : pos < s.size) : s.data.toList.drop pos ≠ [] := by
  intro h
  rw [List.drop_eq_nil_iff, size_list] at h
  omega
theorem rune_text (W : World) (g : Nat) (c : Int) (hg : W.heap[g]? = some (.cells #[.int .i32 c] 21 (0, 0))) : (convert 75 9 (.slice (some ⟨g, 0, none⟩) 1 1)).run Tryd.prog W = .ok (.string (Utf8.encode c)) W := by
  rw [run_convert_runes W 75 9 21 ⟨g, 0, none⟩ 1 1 [c] (by simp) Tryd.underlying75 Tryd.underlying21 Tryd.underlying9 (fun j hj => by
    obtain rfl : j = 0 := by simpa using hj
    exact blk_cells hg 0)]
  simp [runesBytes]
set_option maxRecDepth 100000 in
set_option maxHeartbeats 2000000 in
theorem mend_calls (s : ByteArray) (hs : s.size ≤ 1000000) (w : World) : Calls Tryd.prog 17 #[.string s] w fun e w' => e = .returned (.string (mendB s)) ∧ Below w.heap.size w w' := by
  have HS := Ap.of hs
  clear hs
  go_enter Tryd.func17, Tryd.ntmps17
  go_wp2_with fail
  go_loopw [3] (fun vo wr => ∃ (out : ByteArray) (pos : Nat), vo = .string out ∧ out.size ≤ 4 * pos ∧ pos ≤ s.size + 4 ∧ Ap (wr.heap[w.heap.size]? = some (.stringIter s pos)) ∧ Ap (out.data.toList ++ mendL (s.data.toList.drop pos) = mendL s.data.toList) ∧ Ap (Below w.heap.size w wr)) (fun _ wr => s.size - wr.iterPos w.heap.size)
  case atStart => exact ⟨⟨#[]⟩, 0, rfl, by decide, by omega, Ap.of (World.iter_heap w s 0), Ap.of rfl, Ap.of (bel_alloc w _)⟩
  case round =>
    obtain ⟨out, pos, rfl, hsz, hple, HI, HM, BL⟩ := hrel
    have hlw : w.heap.size < wr.heap.size := (Array.getElem?_eq_some_iff.1 HI.out).1
    by_cases hp : pos < s.size
    · have hnx := fun ty => next_any (P := Tryd.prog) wr w.heap.size s pos ty HI.out hp
      have hwd := Lib.decodeL_width (s.data.toList.drop pos)
      have hle := Lib.decodeL_le (s.data.toList.drop pos) (drop_ne hp)
      have hst := mendL_step (s.data.toList.drop pos) (drop_ne hp)
      rw [Lib.decodeL_drop] at hwd hle hst
      rw [List.length_drop, size_list] at hle
      have hen := encode_eq (Utf8.decode s pos).1
      have hes := encode_size_le ((Utf8.decode s pos).1 : Int)
      generalize hdc : Utf8.decode s pos = dc at *
      obtain ⟨c, n⟩ := dc
      dsimp only at hwd hle hst hen hes hnx
      rw [List.drop_drop] at hst
      have HST := Ap.of hst
      have HEN := Ap.of hen
      have HI2 := Ap.of (iter_at HI.out (pos + n))
      have HK : Ap (Only (fun j => j = w.heap.size) wr (setIter wr w.heap.size s (pos + n))) := Ap.of ⟨rfl, rfl, rfl, by simp [setIter], fun j hj hne => by simp [setIter, Array.getElem?_setIfInBounds]; intro e; exact (hne e.symm).elim⟩
      have hsz2 : (setIter wr w.heap.size s (pos + n)).heap.size = wr.heap.size := by simp [setIter]
      clear hst hen hdc
      generalize setIter wr w.heap.size s (pos + n) = W1 at *
      have hcv : (convert 75 9 (.slice (some ⟨wr.heap.size, 0, none⟩) 1 1)).run Tryd.prog (W1.alloc (.cells #[.int .i32 (c : Int)] 21)) = .ok (.string (Utf8.encode (c : Int))) (W1.alloc (.cells #[.int .i32 (c : Int)] 21)) := by
        exact rune_text _ _ _ (blk_new hsz2.symm)
      have hos : out.size + (Utf8.encode (c : Int)).size ≤ 9223372036854775807 := by have := HS.out; omega
      generalize Utf8.encode (c : Int) = enc at *
      go_wp2_with fail
      go_roundw
      case rel =>
        refine ⟨out ++ enc, pos + n, rfl, by rw [ByteArray.size_append]; omega, by omega, Ap.of (blk_old HI2.out), Ap.of ?_, Ap.of (bel_stepB (bel_only BL.out (by omega) HK.out (fun i hi => by omega)) (by omega) (bel_alloc _ _))⟩
        rw [ByteArray.data_append, Array.toList_append, List.append_assoc, HEN.out, ← HST.out]
        exact HM.out
      case measure => rw [show (W1.alloc (.cells #[.int .i32 (c : Int)] 21)).iterPos w.heap.size = pos + n from by simp only [World.iterPos, blk_old HI2.out], show wr.iterPos w.heap.size = pos from by simp only [World.iterPos, HI.out]]; omega
    · have hnx := fun ty => next_end (P := Tryd.prog) wr w.heap.size s pos ty HI.out hp
      have hd : mendL (s.data.toList.drop pos) = [] := by
        rw [List.drop_eq_nil_of_le (by rw [size_list]; omega)]; rfl
      have HD := Ap.of hd
      clear hd
      go_wp2_with fail
      go_ret
      have := HM.out
      rw [HD.out, List.append_nil] at this
      exact ⟨by unfold mendB; rw [← this, ba_eta]; rfl, BL.out⟩
end Go.Proofs.YtlomieopppndeaaDoor
