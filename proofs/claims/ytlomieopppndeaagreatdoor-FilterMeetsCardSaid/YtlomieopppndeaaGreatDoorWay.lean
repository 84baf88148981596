/- roundelaylaw06.Way: a path by its parts; PathFinds' walk. -/
import Derived.Test.YtlomieopppndeaaGreatDoorLawFind
import Derived.Test.YtlomieopppndeaaGreatDoorPathAwake
import Derived.Test.YtlomieopppndeaaGreatDoorCmp
import Derived.Test.YtlomieopppndeaaGreatDoorOf
namespace Go.Proofs.YtlomieopppndeaaGreatDoor
open Go.RowKit
attribute [local go_sem] max2_int min2_int

theorem Tryz.infoS : (Tryz.prog.info? 9).map (fun i => (i.zero, i.size, i.bytes)) = some (some (.string ⟨#[]⟩), 1, 16) := by kernel_rfl
def wayL : List ByteArray := [⟨#[97]⟩, ⟨#[98]⟩, ⟨#[99]⟩, ⟨#[110]⟩, ⟨#[48]⟩, ⟨#[49]⟩, ⟨#[50]⟩, ⟨#[48, 48]⟩, ⟨#[120]⟩, ⟨#[45, 49]⟩]
theorem way_small {s : ByteArray} (h : s ∈ wayL) : s.size ≤ 2 := by
  simp only [wayL, List.mem_cons, List.not_mem_nil, or_false] at h
  rcases h with rfl | rfl | rfl | rfl | rfl | rfl | rfl | rfl | rfl | rfl <;> decide
def WayP (w : World) (e : Ending) (w' : World) : Prop := ∃ (A : Option Addr) (n c : Nat) (l : List ByteArray), e = .returned (.slice A n c) ∧ Row KStr w' (fun j => w.heap.size ≤ j) A n c l ∧ n ≤ 4 ∧ (∀ p ∈ l, p ∈ wayL) ∧ Below w.heap.size w w'

set_option maxRecDepth 100000 in
set_option maxHeartbeats 2000000 in
theorem way_calls (A : Option Addr) (n c : Nat) (w : World) (ok : Nat → Prop) (hok : ∀ k, ok k → k < w.heap.size) (hB : Bs w ok A n c) : Calls Tryz.prog 17 #[.slice A n c] w (WayP w) := by
  obtain ⟨N, hN⟩ : ∃ N : Nat, (if 4 < (n : Int) then 4 else (n : Int)) = (N : Int) := ⟨if 4 < n then 4 else n, by split <;> split <;> omega⟩
  have hNl : N ≤ n := by split at hN <;> omega
  have hN4 : N ≤ 4 := by split at hN <;> omega
  have hrun := cutTo A n c N hB.1 hB.2.1 hB.2.2.1 hNl
  have HB := Ap.of (hB.take hNl)
  have hn1 := hB.1
  have hn2 := hB.2.1
  have HOK := Ap.of hok
  clear hok hB
  obtain ⟨i0, hif, hzz⟩ := Option.map_eq_some_iff.1 Tryz.infoS
  simp only [Prod.mk.injEq] at hzz
  have HI := Ap.of (And.intro hif hzz)
  clear hif hzz
  go_enter Tryz.func17, Tryz.ntmps17
  go_wp2_with fail
  go_loopw [3, 12] (fun vo vi wr => ∃ (k : Nat) (A : Option Addr) (c : Nat) (l : List ByteArray), k ≤ N ∧ vi = .int .i64 k ∧ vo = .slice A k c ∧ Ap (l.length = k) ∧ Ap (∀ p ∈ l, p ∈ wayL) ∧
    Ap (Own KStr 9 w.heap.size wr (fun j => w.heap.size ≤ j) (.slice A k c) l) ∧ Ap (Below w.heap.size w wr)) (fun _ vi _ => N - (intOf vi).toNat)
  case atStart => exact ⟨0, none, 0, [], Nat.zero_le _, rfl, rfl, Ap.of rfl, Ap.of (fun p h => by cases h), Ap.of (Own.nil _ _ _ _ _), Ap.of (Below.refl _ _)⟩
  case round =>
    obtain ⟨k, A2, c2, l, hk, rfl, rfl, HLN, HM, O, BL⟩ := hrel
    by_cases hlt : k < N
    · obtain ⟨_, _, _, h0 | ⟨g, off, rfl, hg, hgl, hx⟩⟩ := HB.out.below BL.out
      · omega
      obtain ⟨x, hc, h0, h1⟩ := hx k hlt
      have hlb := World.block_lt_of_cell? wr _ hc
      obtain ⟨s, hs⟩ : ∃ s, wayL[(x % 10).toNat]? = some s := ⟨_, List.getElem?_eq_getElem (by have : wayL.length = 10 := rfl; omega)⟩
      have hway : (wr.alloc (.cells #[.string ⟨#[97]⟩, .string ⟨#[98]⟩, .string ⟨#[99]⟩, .string ⟨#[110]⟩, .string ⟨#[48]⟩, .string ⟨#[49]⟩, .string ⟨#[50]⟩, .string ⟨#[48, 48]⟩, .string ⟨#[120]⟩, .string ⟨#[45, 49]⟩] 9)).cell? ⟨wr.heap.size, (x % 10).toNat, none⟩ = some (.string s) := by
        rw [blk_cells (blk_new rfl)]
        show (wayL.map Value.string).toArray[(x % 10).toNat]? = _
        rw [List.getElem?_toArray, List.getElem?_map, hs]; rfl
      have HS := Ap.of (List.mem_of_getElem? hs)
      have LT := Ap.of O.out.lt
      have OB := Ap.of O.out.1
      have r0 : 0 ≤ x % 10 := by omega
      have r1 : x % 10 < 10 := by omega
      clear hx hs hg
      have X1 := Ap.of ((O.out.below (bel_alloc wr (.cells #[.string ⟨#[97]⟩, .string ⟨#[98]⟩, .string ⟨#[99]⟩, .string ⟨#[110]⟩, .string ⟨#[48]⟩, .string ⟨#[49]⟩, .string ⟨#[50]⟩, .string ⟨#[48, 48]⟩, .string ⟨#[120]⟩, .string ⟨#[45, 49]⟩] 9))).below (bel_alloc _ (.cells #[.string s] 9)))
      go_wp2_with (at_builtin; refine wp_append (K := KStr) (tx := 9) (e := 9) (B := w.heap.size) (ok := fun j => w.heap.size ≤ j) (okx := fun _ => False) (xs := l) (x := s) (cs := [.string s]) rfl _ _ 30 i0 _ 16 rfl Tryz.underlying30 HI.out.1 HI.out.2.1 HI.out.2.2.1 HI.out.2.2.2 rfl (Nat.succ_pos 0) rfl rfl ?a1 ?a2 ?a3 ?a4 ?a5 ?a6 ?a7 ?a8 ?_)
      case a1 => exact X1.out
      case a2 => exact (Array.getElem?_eq_some_iff.1 (blk_new (by simp))).2
      case a3 => exact And.intro rfl (by have := way_small HS.out; omega)
      case a5 => intro j hj; have := BL.out.size; (try simp at hj); omega
      case a6 => have := HLN.out; omega
      case a7 => have := HLN.out; omega
      case a8 => have := BL.out.size; (try simp); omega
      intro v5 w5 hO5 honly
      obtain ⟨A5, c5, hv5, _, _⟩ := hO5.slice
      rw [show (l ++ [s]).length = k + 1 from by simp [HLN.out]] at hv5
      have BL5 := Ap.of (bel_only (bel_stepB (bel_stepB BL.out BL.out.size (bel_alloc wr (.cells #[.string ⟨#[97]⟩, .string ⟨#[98]⟩, .string ⟨#[99]⟩, .string ⟨#[110]⟩, .string ⟨#[48]⟩, .string ⟨#[49]⟩, .string ⟨#[50]⟩, .string ⟨#[48, 48]⟩, .string ⟨#[120]⟩, .string ⟨#[45, 49]⟩] 9))) (by have := BL.out.size; simp; omega) (bel_alloc _ (.cells #[.string s] 9))) (by have := BL.out.size; simp; omega) honly (fun j he => (LT.out j he).1))
      subst hv5
      have O5 := Ap.of hO5
      clear honly hO5 X1
      go_wp2_with fail
      go_roundw
      case rel => exact ⟨k + 1, A5, c5, l ++ [s], by omega, by go_num, rfl, Ap.of (by simp [HLN.out]), Ap.of (fun p hp => by
        rcases List.mem_append.1 hp with hp | hp
        · exact HM.out p hp
        · rw [List.mem_singleton.1 hp]; exact HS.out), O5, BL5⟩
      case measure => simp [intOf]; omega
    · obtain rfl : k = N := by omega
      obtain ⟨A6, c6, hv6, hrow⟩ := O.out.row
      rw [HLN.out] at hv6 hrow
      injection hv6 with hv6 _ hv7
      subst hv6 hv7
      have HROW := Ap.of hrow
      clear hrow
      go_wp2_with fail
      go_ret
      exact ⟨_, _, _, l, rfl, HROW.out, hN4, HM.out, BL.out⟩
end Go.Proofs.YtlomieopppndeaaGreatDoor
