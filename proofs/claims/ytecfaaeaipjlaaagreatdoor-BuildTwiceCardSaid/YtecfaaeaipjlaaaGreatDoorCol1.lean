/- Collections: what a new one is; which of its indexes has a name. -/
import Derived.Test.YtecfaaeaipjlaaaGreatDoorData
import Derived.Deep.RegionHeld3
namespace Go.Proofs.YtecfaaeaipjlaaaGreatDoor
open Go.RowKit

set_option maxRecDepth 100000 in
set_option maxHeartbeats 4000000 in
theorem hnew_calls (w : World) : Calls Tryz.prog 20 #[] w fun e w' => e = .returned (.pointer (some ⟨w.heap.size, 0, none⟩)) ∧ w' = w.alloc (.cells #[.slice none 0 0, .int .i64 0] 89) := by
  go_enter Tryz.func20, Tryz.ntmps20
  go_wp2
  go_ret
  exact ⟨rfl, rfl⟩
set_option maxRecDepth 100000 in
set_option maxHeartbeats 4000000 in
theorem cnew_calls (w : World) : Calls Tryz.prog 8 #[] w fun e w' => e = .returned (.pointer (some ⟨w.heap.size + 1, 0, none⟩)) ∧ w' = (w.alloc (.cells #[.slice none 0 0, .int .i64 0] 89)).alloc (.cells #[.pointer (some ⟨w.heap.size, 0, none⟩), .slice none 0 0, .slice none 0 0] 64) := by
  go_enter Tryz.func8, Tryz.ntmps8
  go_wp2_with fail
  refine (hnew_calls w).mono ?_
  rintro e w1 ⟨rfl, rfl⟩
  go_wp2_with fail
  go_ret
  exact ⟨rfl, rfl⟩
set_option maxRecDepth 100000 in
set_option maxHeartbeats 4000000 in
theorem tnew_calls (w : World) : Calls Tryz.prog 39 #[] w fun e w' => e = .returned (.pointer (some ⟨w.heap.size + 1, 0, none⟩)) ∧ w' = (w.alloc (.cells #[.slice none 0 0, .slice none 0 0] 150)).alloc (.cells #[.pointer (some ⟨w.heap.size, 0, none⟩), .int .i64 0] 152) := by
  go_enter Tryz.func39, Tryz.ntmps39
  go_wp2
  go_ret
  exact ⟨rfl, rfl⟩
set_option maxRecDepth 100000 in
set_option maxHeartbeats 4000000 in
theorem snew_calls (w : World) : Calls Tryz.prog 40 #[] w fun e w' => e = .returned (.pointer (some ⟨w.heap.size, 0, none⟩)) ∧ w' = w.alloc (.cells #[.slice none 0 0] 155) := by
  go_enter Tryz.func40, Tryz.ntmps40
  go_wp2
  go_ret
  exact ⟨rfl, rfl⟩

/-! ### named -/
def KPtr : Knd Nat where
  sz := 1
  R := fun _ _ x cs => cs = [.pointer (some ⟨x, 0, none⟩)]
  len := fun h => by rw [h]; rfl
  one := fun h u hu => by rw [h, List.mem_singleton] at hu; rw [hu]; rfl
  mono := fun _ h => h
  bound := fun h => h
  move := fun _ h => h
theorem ptr_cells {w : World} {ok : Nat → Prop} {A : Option Addr} {n c : Nat} {l : List Nat} (h : Row KPtr w ok A n c l) {i : Nat} (hi : i < n) : ∃ g off m, A = some ⟨g, off, none⟩ ∧ l[i]? = some m ∧ w.cell? ⟨g, off + i, none⟩ = some (.pointer (some ⟨m, 0, none⟩)) := by
  obtain ⟨g, off, m, cs, rfl, hm, hr, hc⟩ := h.elem hi
  refine ⟨g, off, m, rfl, hm, ?_⟩
  have := hc 0 (.pointer (some ⟨m, 0, none⟩)) (by rw [show cs = _ from hr]; rfl)
  simpa [KPtr] using this
/-- A block's first word is its name. -/
def NameAt (w : World) (m : Nat) (nm : ByteArray) : Prop := w.cell? ⟨m, 0, none⟩ = some (.string nm) ∧ m < w.heap.size
theorem NameAt.below {w w' : World} {m : Nat} {nm : ByteArray} (h : NameAt w m nm) (hb : Below w.heap.size w w') : NameAt w' m nm :=
  ⟨(World.cell?_of_block (w := w) (hb.block m h.2)).trans h.1, Nat.lt_of_lt_of_le h.2 hb.size⟩
theorem str_beq (a b : ByteArray) : (a.toList == b.toList) = decide (a = b) := by
  by_cases h : a = b
  · subst h; simp
  · have hn : ¬ a.toList = b.toList := fun e => h (by rw [ByteArray.toList_eq, ByteArray.toList_eq] at e; exact ByteArray.ext (Array.toList_inj.1 e))
    rw [decide_eq_false h]
    simpa using hn
set_option maxRecDepth 100000 in
set_option maxHeartbeats 4000000 in
theorem named1_calls (m gn : Nat) (a nm : ByteArray) (w : World) (ha : NameAt w m a) (hn : w.cell? ⟨gn, 0, none⟩ = some (.string nm)) :
    Calls Tryz.prog 71 #[.pointer (some ⟨m, 0, none⟩), .pointer (some ⟨gn, 0, none⟩)] w fun e w' => e = .returned (.bool (decide (a = nm))) ∧ Below w.heap.size w w' := by
  have h1 := ha.1
  clear ha
  go_enter Tryz.func71, Tryz.ntmps71
  go_wp2_with fail
  go_region
  go_wp2_with fail
  go_ret
  exact ⟨by rw [← str_beq]; rfl, bel_draw _⟩
/-- Where a name stands in a row. -/
def Named (N : Nat → ByteArray) (nm : ByteArray) (ms : List Nat) (r : Int) : Prop := (r = -1 ∧ ∀ m ∈ ms, N m ≠ nm) ∨ ∃ (k : Nat) (m : Nat), r = (k : Int) ∧ ms[k]? = some m ∧ N m = nm
set_option maxRecDepth 100000 in
set_option maxHeartbeats 4000000 in
theorem midx_calls (gn : Nat) (nm : ByteArray) (A : Option Addr) (n c : Nat) (ms : List Nat) (N : Nat → ByteArray) (w : World) (h : Row KPtr w (fun _ => True) A n c ms) (hN : ∀ m ∈ ms, NameAt w m (N m)) (hn : w.heap[gn]? = some (.cells #[.string nm] 9 (0, 0))) :
    Calls Tryz.prog 70 #[.slice A n c, .func (.func 71) #[] #[.pointer (some ⟨gn, 0, none⟩)]] w fun e w' => ∃ r : Int, e = .returned (.int .i64 r) ∧ Named N nm ms r ∧ Below w.heap.size w w' := by
  have hlen := h.length
  have hcap := h.cap
  have HG := Ap.of hn
  have H := Ap.of h
  have HLN := Ap.of hlen
  have HN := Ap.of hN
  clear hn h hlen hN
  go_enter Tryz.func70, Tryz.ntmps70
  go_wp2_with fail
  go_loopw [8] (fun i wr => ∃ k : Nat, k ≤ n ∧ i = .int .i64 k ∧ Ap (∀ j m, j < k → ms[j]? = some m → N m ≠ nm) ∧ Ap (Below w.heap.size w wr)) (fun i _ => n - (intOf i).toNat)
  case atStart => exact ⟨0, Nat.zero_le _, rfl, Ap.of (fun j m hj => by omega), Ap.of (Below.refl _ _)⟩
  case round =>
    obtain ⟨k, hk, rfl, HV, BL⟩ := hrel
    by_cases hlt : k < n
    · obtain ⟨g2, off, m, rfl, hy, c0⟩ := ptr_cells (H.out.below BL.out) hlt
      have HY := Ap.of hy
      have hcall := named1_calls m gn (N m) nm wr ((HN.out m (List.mem_of_getElem? hy)).below BL.out) (by have := blk_cells (blk_bel HG.out BL.out) 0; simpa using this)
      have HC := Ap.of hcall
      clear hy hcall
      cases hb : decide (N m = nm) with
      | true =>
        have HB := Ap.of (of_decide_eq_true hb)
        rw [hb] at HC
        clear hb
        go_wp2_with fail
        refine HC.out.mono ?_
        rintro e w1 ⟨rfl, hbl⟩
        have HL := Ap.of hbl
        clear hbl
        go_wp2_with fail
        go_ret
        exact ⟨_, rfl, .inr ⟨k, m, rfl, HY.out, HB.out⟩, bel_stepB BL.out BL.out.size HL.out⟩
      | false =>
        have HB := Ap.of (of_decide_eq_false hb)
        rw [hb] at HC
        clear hb
        go_wp2_with fail
        refine HC.out.mono ?_
        rintro e w1 ⟨rfl, hbl⟩
        have HL := Ap.of hbl
        clear hbl
        go_wp2_with fail
        go_roundw
        case rel => exact ⟨k + 1, by omega, by go_num, Ap.of (fun j m' hj hm' => by
          rcases Nat.lt_or_ge j k with h | h
          · exact HV.out j m' h hm'
          · obtain rfl : j = k := by omega
            rw [HY.out] at hm'
            injection hm' with hm'
            subst hm'
            exact HB.out), Ap.of (bel_stepB BL.out BL.out.size HL.out)⟩
        case measure => simp [intOf]; omega
    · obtain rfl : k = n := by omega
      go_wp2_with fail
      go_ret
      exact ⟨_, rfl, .inl ⟨rfl, fun m hm => by
        obtain ⟨j, hj, he⟩ := List.getElem_of_mem hm
        exact HV.out j m (by rw [← HLN.out]; exact hj) (by rw [List.getElem?_eq_getElem hj, he])⟩, BL.out⟩
set_option maxRecDepth 100000 in
set_option maxHeartbeats 4000000 in
theorem named_calls (nm : ByteArray) (A : Option Addr) (n c : Nat) (ms : List Nat) (N : Nat → ByteArray) (w : World) (h : Row KPtr w (fun _ => True) A n c ms) (hN : ∀ m ∈ ms, NameAt w m (N m)) :
    Calls Tryz.prog 38 #[.slice A n c, .string nm] w fun e w' => ∃ r : Int, e = .returned (.int .i64 r) ∧ Named N nm ms r ∧ Below w.heap.size w w' := by
  have hb := bel_alloc w (.cells #[.string nm] 9)
  have HC := Ap.of (midx_calls w.heap.size nm A n c ms N _ (h.below hb) (fun m hm => (hN m hm).below hb) (blk_new rfl))
  have HB := Ap.of hb
  clear hb h hN
  go_enter Tryz.func38, Tryz.ntmps38
  go_wp2_with fail
  refine HC.out.mono ?_
  rintro e w1 ⟨r, rfl, hr, hb⟩
  have HR := Ap.of hr
  have HL := Ap.of hb
  clear hr hb
  go_wp2_with fail
  go_ret
  exact ⟨_, rfl, HR.out, bel_step HB.out HL.out⟩
theorem named_none {N : Nat → ByteArray} {nm : ByteArray} {r : Int} (h : Named N nm [] r) : r = -1 := by
  rcases h with ⟨h, _⟩ | ⟨k, m, _, h, _⟩
  · exact h
  · simp at h
theorem named_one {N : Nat → ByteArray} {nm : ByteArray} {m : Nat} {r : Int} (h : Named N nm [m] r) (hn : N m = nm) : r = 0 := by
  rcases h with ⟨_, h⟩ | ⟨k, m', rfl, h, _⟩
  · exact absurd hn (h m (by simp))
  · rcases k with _ | k
    · rfl
    · simp at h
end Go.Proofs.YtecfaaeaipjlaaaGreatDoor
