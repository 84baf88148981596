/- path.Parse: a text's parts, or that it is no path. -/
import Derived.Test.YtecfaaeaipjlaaaGreatDoorFaultCode
import Derived.Test.YtecfaaeaipjlaaaGreatDoorShelf
import Derived.Test.YtecfaaeaipjlaaaGreatDoorGenL
namespace Go.Proofs.YtecfaaeaipjlaaaGreatDoor
open Go.RowKit

def oddB (p : ByteArray) : Bool := p.size == 0 || decide (32 < p.size)
theorem isEmpty_size (p : ByteArray) : p.toList.isEmpty = (p.size == 0) := by
  rw [ByteArray.toList_eq]
  cases p with
  | mk d =>
    show d.toList.isEmpty = (d.size == 0)
    rw [← Array.length_toList]
    cases d.toList <;> simp

set_option maxHeartbeats 1000000 in
theorem odd_calls (p : ByteArray) (hp : p.size ≤ 9223372036854775807) (w : World) : Calls Tryz.prog 99 #[.string p] w fun e w' => e = .returned (.bool (oddB p)) ∧ w' = w := by
  have e0 := isEmpty_size p
  by_cases h0 : p.size = 0
  · have e1 : p.toList.isEmpty = true := by rw [e0]; simp [h0]
    have e2 : oddB p = true := by simp [oddB, h0]
    rw [e2]
    clear h0 e2 e0
    go_enter Tryz.func99, Tryz.ntmps99
    go_wp2
    go_ret
    exact ⟨rfl, rfl⟩
  · have e1 : p.toList.isEmpty = false := by rw [e0]; simp [h0]
    have e2 : oddB p = decide ((32 : Int) < (p.size : Int)) := by
      unfold oddB
      rw [show (p.size == 0) = false from by simpa using h0, Bool.false_or]
      exact decide_eq_decide.2 (by omega)
    rw [e2]
    generalize hb : decide ((32 : Int) < (p.size : Int)) = b
    have hb' : decide ((32 : Int) < (p.size : Int)) = b := hb
    clear h0 e2 e0 hb
    go_enter Tryz.func99, Tryz.ntmps99
    go_wp2
    all_goals go_ret
    all_goals exact ⟨by simp_all, rfl⟩

/-- A row of texts. -/
def StrsAt (w : World) (g : Nat) (l : List ByteArray) : Prop := w.heap[g]? = some (.cells ((l.map Value.string).toArray) 9 (0, 0)) ∧ l.length ≤ 9223372036854775807 ∧ ∀ p ∈ l, p.size ≤ 9223372036854775807
theorem StrsAt.cell {w : World} {g : Nat} {l : List ByteArray} (h : StrsAt w g l) {k : Nat} (hk : k < l.length) : w.cell? ⟨g, k, none⟩ = some (.string (l.getD k ⟨#[]⟩)) := by
  rw [blk_cells h.1]
  simp [List.getD_eq_getElem?_getD, List.getElem?_eq_getElem hk]

set_option maxHeartbeats 1000000 in
theorem idx_calls (g : Nat) (l : List ByteArray) (w : World) (h : StrsAt w g l) (c : Nat) :
    Calls Tryz.prog 124 #[.slice (some ⟨g, 0, none⟩) l.length c, .func (.func 99) #[] #[]] w fun e w' => ∃ n : Int, e = .returned (.int .i64 n) ∧ decide (0 ≤ n) = l.any oddB ∧ w' = w := by
  have H := Ap.of h
  have hlen := h.2.1
  clear h
  go_enter Tryz.func124, Tryz.ntmps124
  go_wp2_with fail
  go_loop [8] (fun i => ∃ k : Nat, k ≤ l.length ∧ i = .int .i64 k ∧ Ap ((l.take k).any oddB = false)) (fun i => l.length - (intOf i).toNat)
  case atStart => exact ⟨0, Nat.zero_le _, rfl, Ap.of (by simp)⟩
  case round =>
    obtain ⟨k, hk, rfl, HN⟩ := hrel
    by_cases hlt : k < l.length
    · have hc := H.out.cell hlt
      have hp := H.out.2.2 (l.getD k ⟨#[]⟩) (by rw [List.getD_eq_getElem?_getD, List.getElem?_eq_getElem hlt]; exact List.getElem_mem hlt)
      have ht : (l.take (k + 1)).any oddB = oddB (l.getD k ⟨#[]⟩) := by
        rw [List.take_succ_eq_append_getElem hlt, List.any_append, HN.out]
        simp [List.getD_eq_getElem?_getD, List.getElem?_eq_getElem hlt]
      have HT := Ap.of ht
      have hall : oddB (l.getD k ⟨#[]⟩) = true → l.any oddB = true := fun ho => by
        rw [List.any_eq_true]
        exact ⟨_, by rw [List.getD_eq_getElem?_getD, List.getElem?_eq_getElem hlt]; exact List.getElem_mem hlt, ho⟩
      have HA := Ap.of hall
      clear ht hall
      generalize l.getD k ⟨#[]⟩ = p at *
      have HP := Ap.of hp
      clear hp
      cases hb : oddB p with
      | true =>
        have HB := Ap.of hb
        clear hb
        go_wp2_with fail
        refine (odd_calls p HP.out w).mono ?_
        rw [HB.out]
        rintro e w1 ⟨rfl, rfl⟩
        go_wp2_with fail
        go_ret
        exact ⟨k, rfl, by rw [HA.out HB.out]; simp, rfl⟩
      | false =>
        have HB := Ap.of hb
        clear hb
        go_wp2_with fail
        refine (odd_calls p HP.out w).mono ?_
        rw [HB.out]
        rintro e w1 ⟨rfl, rfl⟩
        go_wp2_with fail
        go_round
        case rel => exact ⟨k + 1, by omega, by go_num, Ap.of (by rw [HT.out, HB.out])⟩
        case measure => simp [intOf]; omega
    · obtain rfl : k = l.length := by omega
      go_wp2_with fail
      go_ret
      exact ⟨-1, rfl, by have := HN.out; rw [List.take_length] at this; rw [this]; decide, rfl⟩
set_option maxHeartbeats 1000000 in
theorem contains_calls (g : Nat) (l : List ByteArray) (w : World) (h : StrsAt w g l) (c : Nat) :
    Calls Tryz.prog 98 #[.slice (some ⟨g, 0, none⟩) l.length c, .func (.func 99) #[] #[]] w fun e w' => e = .returned (.bool (l.any oddB)) ∧ w' = w := by
  have H := Ap.of h
  clear h
  go_enter Tryz.func98, Tryz.ntmps98
  go_wp2_with fail
  refine (idx_calls g l w H.out c).mono ?_
  rintro e w1 ⟨n, rfl, hn, rfl⟩
  have HN := Ap.of hn
  clear hn
  go_wp2_with fail
  go_ret
  exact ⟨by rw [HN.out]; rfl, rfl⟩
set_option maxHeartbeats 1000000 in
theorem valid_calls (s : ByteArray) (hs : s.size ≤ 9223372036854775807) (w : World) (hT : Lib.Utf8Tabs 2 3 w) : Calls Tryz.prog 100 #[.string s] w fun e w' => e = .returned (.bool (Lib.validD s.data.toList)) ∧ Below w.heap.size w w' := by
  have HT := Ap.of hT
  clear hT
  go_enter Tryz.func100, Tryz.ntmps100
  go_wp2_with fail
  refine (Tryz.utf8_ValidString s _ hs HT.out).mono ?_
  rintro e w1 ⟨rfl, hb⟩
  go_wp2_with fail
  go_ret
  exact ⟨rfl, hb⟩

/-- A text's parts. -/
def dotB : ByteArray := ⟨#[46]⟩
def partsOf (s : ByteArray) : List ByteArray := Lib.splitB dotB 0 (Lib.countB s dotB) s
def pathOk (s : ByteArray) : Bool := !(partsOf s).any oddB && decide ((partsOf s).length ≤ 8) && Lib.validD s.data.toList
theorem parts_len (s : ByteArray) : (partsOf s).length = Lib.countB s dotB + 1 := Lib.splitB_all dotB (by decide) 0 _ s rfl

/-- What path.Parse tells. -/
def ParseP (s : ByteArray) (w : World) (e : Ending) (w' : World) : Prop :=
  (pathOk s = true ∧ ∃ g : Nat, e = .returned (.tuple #[.slice (some ⟨g, 0, none⟩) (partsOf s).length (partsOf s).length, .nilIface]) ∧ w.heap.size ≤ g ∧ StrsAt w' g (partsOf s) ∧ Below w.heap.size w w') ∨
  (pathOk s = false ∧ ∃ g : Nat, e = .returned (.tuple #[.slice none 0 0, .iface 129 (.pointer (some ⟨g, 0, none⟩))]) ∧ ErrAt w' 1 6 (.iface 129 (.pointer (some ⟨g, 0, none⟩))) ∧ Below w.heap.size w w')

theorem splitB_small (s : ByteArray) : ∀ (k : Nat) (t : ByteArray), t.size ≤ s.size → ∀ p ∈ Lib.splitB dotB 0 k t, p.size ≤ s.size
  | 0, t, h, p, hp => by
    rw [Lib.splitB_zero, List.mem_singleton] at hp
    rw [hp]; exact h
  | k + 1, t, h, p, hp => by
    unfold Lib.splitB at hp
    split at hp
    · rw [List.mem_singleton] at hp; rw [hp]; exact h
    · rcases List.mem_cons.1 hp with rfl | hp
      · rw [ByteArray.size_extract]; omega
      · exact splitB_small s k _ (by rw [ByteArray.size_extract]; omega) p hp

set_option maxRecDepth 100000 in
set_option maxHeartbeats 1000000 in
theorem parse_calls (s : ByteArray) (m : Int) (w : World) (hs : s.size < 4294967281) (hm : w.cell? ⟨1, 0, none⟩ = some (.int .i64 m)) (hT : ∀ w', Below w.heap.size w w' → Lib.Utf8Tabs 2 3 w') :
    Calls Tryz.prog 69 #[.string s] w (ParseP s w) := by
  have hsplit := Tryz.strings_Split s dotB m w hs hm (by decide)
  rw [← parts_len, show (Lib.splitB dotB 0 (Lib.countB s dotB) s) = partsOf s from rfl] at hsplit
  have hS : StrsAt (w.alloc (.cells ((partsOf s).map Value.string).toArray 9)) w.heap.size (partsOf s) :=
    ⟨blk_new (by simp), by rw [parts_len]; have := Lib.countB_le dotB (by decide) s.size s (Nat.le_refl _); omega, fun p hp => by have := splitB_small s _ s (Nat.le_refl _) p hp; omega⟩
  have HS := Ap.of hsplit
  have HT := Ap.of hT
  have HR := Ap.of hS
  have hok : pathOk s = (!(partsOf s).any oddB && decide ((partsOf s).length ≤ 8) && Lib.validD s.data.toList) := rfl
  have HOK := Ap.of hok
  have hvalid := fun w' hb => valid_calls s (by omega) w' (hT w' hb)
  have HV := Ap.of hvalid
  have hcont := contains_calls w.heap.size (partsOf s) _ hS (partsOf s).length
  have HC := Ap.of hcont
  clear hsplit hS hok hT hm hvalid hcont
  generalize hP : partsOf s = P at *
  have HP := Ap.of hP
  clear hP
  generalize Lib.validD s.data.toList = V at *
  cases ho : P.any oddB with
  | true =>
    have HO := Ap.of ho
    clear ho
    go_enter Tryz.func69, Tryz.ntmps69
    go_wp2_with fail
    refine HS.out.mono ?_
    rintro e w1 ⟨rfl, rfl⟩
    go_wp2_with fail
    refine HC.out.mono ?_
    rw [HO.out]
    rintro e w2 ⟨rfl, rfl⟩
    go_wp2_with fail
    refine (new_calls 6 (by decide) _ _).mono ?_
    rintro e w3 ⟨rfl, rfl⟩
    go_wp2_with fail
    go_ret2
    refine .inr ⟨by rw [HOK.out, HO.out]; rfl, _, rfl, ⟨_, _, _, rfl, blk_new (by simp), rfl⟩, bel_step (bel_alloc _ _) (bel_alloc _ _)⟩
  | false =>
    have HO := Ap.of ho
    clear ho
    by_cases hl : P.length ≤ 8
    · have e1 : decide ((8 : Int) < (P.length : Int)) = false := by simp; omega
      have HL := Ap.of hl
      clear hl
      cases V with
      | true =>
        go_enter Tryz.func69, Tryz.ntmps69
        go_wp2_with fail
        refine HS.out.mono ?_
        rintro e w1 ⟨rfl, rfl⟩
        go_wp2_with fail
        refine HC.out.mono ?_
        rw [HO.out]
        rintro e w2 ⟨rfl, rfl⟩
        go_wp2_with fail
        refine (HV.out _ (bel_alloc _ _)).mono ?_
        rintro e w3 ⟨rfl, hb⟩
        have HB := Ap.of hb
        clear hb
        go_wp2_with fail
        go_ret2
        exact .inl ⟨by rw [HOK.out, HO.out]; simp [HL.out], _, by rw [HP.out]; rfl, Nat.le_refl _, by rw [HP.out]; exact ⟨blk_bel HR.out.1 HB.out, HR.out.2⟩, bel_step (bel_alloc _ _) HB.out⟩
      | false =>
        go_enter Tryz.func69, Tryz.ntmps69
        go_wp2_with fail
        refine HS.out.mono ?_
        rintro e w1 ⟨rfl, rfl⟩
        go_wp2_with fail
        refine HC.out.mono ?_
        rw [HO.out]
        rintro e w2 ⟨rfl, rfl⟩
        go_wp2_with fail
        refine (HV.out _ (bel_alloc _ _)).mono ?_
        rintro e w3 ⟨rfl, hb⟩
        have HB := Ap.of hb
        clear hb
        go_wp2_with fail
        refine (new_calls 6 (by decide) _ _).mono ?_
        rintro e w4 ⟨rfl, rfl⟩
        go_wp2_with fail
        go_ret2
        exact .inr ⟨by rw [HOK.out]; simp, _, rfl, ⟨_, _, _, rfl, blk_new (by simp), rfl⟩, bel_step (bel_step (bel_alloc _ _) HB.out) (bel_alloc _ _)⟩
    · have e1 : decide ((8 : Int) < (P.length : Int)) = true := by simp; omega
      have HL := Ap.of hl
      clear hl
      go_enter Tryz.func69, Tryz.ntmps69
      go_wp2_with fail
      refine HS.out.mono ?_
      rintro e w1 ⟨rfl, rfl⟩
      go_wp2_with fail
      refine HC.out.mono ?_
      rw [HO.out]
      rintro e w2 ⟨rfl, rfl⟩
      go_wp2_with fail
      refine (new_calls 6 (by decide) _ _).mono ?_
      rintro e w3 ⟨rfl, rfl⟩
      go_wp2_with fail
      go_ret2
      exact .inr ⟨by rw [HOK.out]; simp [HL.out], _, rfl, ⟨_, _, _, rfl, blk_new (by simp), rfl⟩, bel_step (bel_alloc _ _) (bel_alloc _ _)⟩
end Go.Proofs.YtecfaaeaipjlaaaGreatDoor
