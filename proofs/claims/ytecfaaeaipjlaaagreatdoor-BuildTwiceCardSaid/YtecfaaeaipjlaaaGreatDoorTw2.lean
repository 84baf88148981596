/- roundelaylaw10.Spec; the descriptions of one index, and of none. -/
import Derived.Test.YtecfaaeaipjlaaaGreatDoorAwk
namespace Go.Proofs.YtecfaaeaipjlaaaGreatDoor
open Go.RowKit
attribute [local go_sem] max2_int min2_int

/-- A description that may be. -/
def SpcOK (nm pt : ByteArray) : Prop := oddN nm = false ∧ nm.toList ≠ [] ∧ nm.size ≤ 16 ∧ pathOk pt = true ∧ pt.size < 4294967281
def spcN (k : Nat) : ByteArray := ⟨#[105, UInt8.ofNat (48 + k)]⟩
def spcP (k : Nat) : ByteArray := [⟨#[97]⟩, ⟨#[98]⟩, ⟨#[97, 46, 98]⟩, ⟨#[99, 46, 48]⟩, ⟨#[110]⟩].getD (k % 5) ⟨#[]⟩
theorem spc_ok : ∀ k, k < 10 → oddN (spcN k) = false ∧ (spcN k).toList ≠ [] ∧ (spcN k).size ≤ 16 ∧ pathOk (spcP k) = true ∧ (spcP k).size < 4294967281 := by decide +kernel
theorem spcN_eq : ∀ k, k < 10 → (⟨#[105]⟩ ++ ByteArray.extract ⟨#[48, 49, 50, 51, 52, 53, 54, 55, 56, 57]⟩ k (k + 1) : ByteArray) = spcN k := by decide +kernel
set_option maxRecDepth 100000 in
set_option maxHeartbeats 4000000 in
theorem spec10_calls (n : Int) (u : Bool) (w : World) (h0 : 0 ≤ n) (_h1 : n ≤ 255) :
    Calls Tryz.prog 9 #[.int .u8 n, .bool u] w fun e w' => e = .returned (.agg #[.string (spcN (n % 10).toNat), .string (spcP (n % 10).toNat), .bool u]) ∧ Below w.heap.size w w' := by
  have hq : ∃ K : Nat, K < 10 ∧ n % 10 = (K : Int) ∧ n.tmod 10 = (K : Int) ∧ n % 5 = ((K % 5 : Nat) : Int) ∧ n.tmod 5 = ((K % 5 : Nat) : Int) :=
    ⟨(n % 10).toNat, by omega, by omega, by rw [Int.tmod_eq_emod_of_nonneg h0]; omega, by omega, by rw [Int.tmod_eq_emod_of_nonneg h0]; omega⟩
  obtain ⟨K, hK, e1, e2, e3, e4⟩ := hq
  rw [e1]
  clear h0 _h1
  rcases (show K = 0 ∨ K = 1 ∨ K = 2 ∨ K = 3 ∨ K = 4 ∨ K = 5 ∨ K = 6 ∨ K = 7 ∨ K = 8 ∨ K = 9 by omega) with rfl | rfl | rfl | rfl | rfl | rfl | rfl | rfl | rfl | rfl
  · have hN := spcN_eq 0 (by decide)
    have hP : (⟨#[97]⟩ : ByteArray) = spcP 0 := by decide +kernel
    clear hK
    go_enter Tryz.func9, Tryz.ntmps9
    go_wp2_with fail
    go_region
    go_wp2_with fail
    exact bodyPost_ret (v := .agg #[.string (⟨#[105]⟩ ++ ByteArray.extract ⟨#[48, 49, 50, 51, 52, 53, 54, 55, 56, 57]⟩ 0 1), .string ⟨#[97]⟩, .bool u]) (by simp [results, Tryz.results9, go_sem]; exact ⟨hN.symm, hP.symm⟩) rfl ⟨by rw [hP]; exact congrArg (fun x => Ending.returned (Value.agg #[.string x, .string (spcP 0), .bool u])) hN, (bel_step (bel_alloc _ _) (bel_alloc _ _)).drew⟩
  · have hN := spcN_eq 1 (by decide)
    have hP : (⟨#[98]⟩ : ByteArray) = spcP 1 := by decide +kernel
    clear hK
    go_enter Tryz.func9, Tryz.ntmps9
    go_wp2_with fail
    go_region
    go_wp2_with fail
    exact bodyPost_ret (v := .agg #[.string (⟨#[105]⟩ ++ ByteArray.extract ⟨#[48, 49, 50, 51, 52, 53, 54, 55, 56, 57]⟩ 1 2), .string ⟨#[98]⟩, .bool u]) (by simp [results, Tryz.results9, go_sem]; exact ⟨hN.symm, hP.symm⟩) rfl ⟨by rw [hP]; exact congrArg (fun x => Ending.returned (Value.agg #[.string x, .string (spcP 1), .bool u])) hN, (bel_step (bel_alloc _ _) (bel_alloc _ _)).drew⟩
  · have hN := spcN_eq 2 (by decide)
    have hP : (⟨#[97, 46, 98]⟩ : ByteArray) = spcP 2 := by decide +kernel
    clear hK
    go_enter Tryz.func9, Tryz.ntmps9
    go_wp2_with fail
    go_region
    go_wp2_with fail
    exact bodyPost_ret (v := .agg #[.string (⟨#[105]⟩ ++ ByteArray.extract ⟨#[48, 49, 50, 51, 52, 53, 54, 55, 56, 57]⟩ 2 3), .string ⟨#[97, 46, 98]⟩, .bool u]) (by simp [results, Tryz.results9, go_sem]; exact ⟨hN.symm, hP.symm⟩) rfl ⟨by rw [hP]; exact congrArg (fun x => Ending.returned (Value.agg #[.string x, .string (spcP 2), .bool u])) hN, (bel_step (bel_alloc _ _) (bel_alloc _ _)).drew⟩
  · have hN := spcN_eq 3 (by decide)
    have hP : (⟨#[99, 46, 48]⟩ : ByteArray) = spcP 3 := by decide +kernel
    clear hK
    go_enter Tryz.func9, Tryz.ntmps9
    go_wp2_with fail
    go_region
    go_wp2_with fail
    exact bodyPost_ret (v := .agg #[.string (⟨#[105]⟩ ++ ByteArray.extract ⟨#[48, 49, 50, 51, 52, 53, 54, 55, 56, 57]⟩ 3 4), .string ⟨#[99, 46, 48]⟩, .bool u]) (by simp [results, Tryz.results9, go_sem]; exact ⟨hN.symm, hP.symm⟩) rfl ⟨by rw [hP]; exact congrArg (fun x => Ending.returned (Value.agg #[.string x, .string (spcP 3), .bool u])) hN, (bel_step (bel_alloc _ _) (bel_alloc _ _)).drew⟩
  · have hN := spcN_eq 4 (by decide)
    have hP : (⟨#[110]⟩ : ByteArray) = spcP 4 := by decide +kernel
    clear hK
    go_enter Tryz.func9, Tryz.ntmps9
    go_wp2_with fail
    go_region
    go_wp2_with fail
    exact bodyPost_ret (v := .agg #[.string (⟨#[105]⟩ ++ ByteArray.extract ⟨#[48, 49, 50, 51, 52, 53, 54, 55, 56, 57]⟩ 4 5), .string ⟨#[110]⟩, .bool u]) (by simp [results, Tryz.results9, go_sem]; exact ⟨hN.symm, hP.symm⟩) rfl ⟨by rw [hP]; exact congrArg (fun x => Ending.returned (Value.agg #[.string x, .string (spcP 4), .bool u])) hN, (bel_step (bel_alloc _ _) (bel_alloc _ _)).drew⟩
  · have hN := spcN_eq 5 (by decide)
    have hP : (⟨#[97]⟩ : ByteArray) = spcP 5 := by decide +kernel
    clear hK
    go_enter Tryz.func9, Tryz.ntmps9
    go_wp2_with fail
    go_region
    go_wp2_with fail
    exact bodyPost_ret (v := .agg #[.string (⟨#[105]⟩ ++ ByteArray.extract ⟨#[48, 49, 50, 51, 52, 53, 54, 55, 56, 57]⟩ 5 6), .string ⟨#[97]⟩, .bool u]) (by simp [results, Tryz.results9, go_sem]; exact ⟨hN.symm, hP.symm⟩) rfl ⟨by rw [hP]; exact congrArg (fun x => Ending.returned (Value.agg #[.string x, .string (spcP 5), .bool u])) hN, (bel_step (bel_alloc _ _) (bel_alloc _ _)).drew⟩
  · have hN := spcN_eq 6 (by decide)
    have hP : (⟨#[98]⟩ : ByteArray) = spcP 6 := by decide +kernel
    clear hK
    go_enter Tryz.func9, Tryz.ntmps9
    go_wp2_with fail
    go_region
    go_wp2_with fail
    exact bodyPost_ret (v := .agg #[.string (⟨#[105]⟩ ++ ByteArray.extract ⟨#[48, 49, 50, 51, 52, 53, 54, 55, 56, 57]⟩ 6 7), .string ⟨#[98]⟩, .bool u]) (by simp [results, Tryz.results9, go_sem]; exact ⟨hN.symm, hP.symm⟩) rfl ⟨by rw [hP]; exact congrArg (fun x => Ending.returned (Value.agg #[.string x, .string (spcP 6), .bool u])) hN, (bel_step (bel_alloc _ _) (bel_alloc _ _)).drew⟩
  · have hN := spcN_eq 7 (by decide)
    have hP : (⟨#[97, 46, 98]⟩ : ByteArray) = spcP 7 := by decide +kernel
    clear hK
    go_enter Tryz.func9, Tryz.ntmps9
    go_wp2_with fail
    go_region
    go_wp2_with fail
    exact bodyPost_ret (v := .agg #[.string (⟨#[105]⟩ ++ ByteArray.extract ⟨#[48, 49, 50, 51, 52, 53, 54, 55, 56, 57]⟩ 7 8), .string ⟨#[97, 46, 98]⟩, .bool u]) (by simp [results, Tryz.results9, go_sem]; exact ⟨hN.symm, hP.symm⟩) rfl ⟨by rw [hP]; exact congrArg (fun x => Ending.returned (Value.agg #[.string x, .string (spcP 7), .bool u])) hN, (bel_step (bel_alloc _ _) (bel_alloc _ _)).drew⟩
  · have hN := spcN_eq 8 (by decide)
    have hP : (⟨#[99, 46, 48]⟩ : ByteArray) = spcP 8 := by decide +kernel
    clear hK
    go_enter Tryz.func9, Tryz.ntmps9
    go_wp2_with fail
    go_region
    go_wp2_with fail
    exact bodyPost_ret (v := .agg #[.string (⟨#[105]⟩ ++ ByteArray.extract ⟨#[48, 49, 50, 51, 52, 53, 54, 55, 56, 57]⟩ 8 9), .string ⟨#[99, 46, 48]⟩, .bool u]) (by simp [results, Tryz.results9, go_sem]; exact ⟨hN.symm, hP.symm⟩) rfl ⟨by rw [hP]; exact congrArg (fun x => Ending.returned (Value.agg #[.string x, .string (spcP 8), .bool u])) hN, (bel_step (bel_alloc _ _) (bel_alloc _ _)).drew⟩
  · have hN := spcN_eq 9 (by decide)
    have hP : (⟨#[110]⟩ : ByteArray) = spcP 9 := by decide +kernel
    clear hK
    go_enter Tryz.func9, Tryz.ntmps9
    go_wp2_with fail
    go_region
    go_wp2_with fail
    exact bodyPost_ret (v := .agg #[.string (⟨#[105]⟩ ++ ByteArray.extract ⟨#[48, 49, 50, 51, 52, 53, 54, 55, 56, 57]⟩ 9 10), .string ⟨#[110]⟩, .bool u]) (by simp [results, Tryz.results9, go_sem]; exact ⟨hN.symm, hP.symm⟩) rfl ⟨by rw [hP]; exact congrArg (fun x => Ending.returned (Value.agg #[.string x, .string (spcP 9), .bool u])) hN, (bel_step (bel_alloc _ _) (bel_alloc _ _)).drew⟩
/-! ### specs -/
theorem Tryz.infoSpB : (Tryz.prog.info? 30).map (fun i => (i.zero, i.size, i.bytes)) = some (some (.agg #[.string ⟨#[]⟩, .string ⟨#[]⟩, .bool false]), 3, 40) := by kernel_rfl
def KSpc : Knd (ByteArray × ByteArray × Bool) where
  sz := 3
  R := fun _ _ x cs => cs = [.string x.1, .string x.2.1, .bool x.2.2]
  len := fun h => by rw [h]; rfl
  one := fun h u hu => by
    rw [h] at hu
    simp only [List.mem_cons, List.not_mem_nil, or_false] at hu
    rcases hu with rfl | rfl | rfl <;> rfl
  mono := fun _ h => h
  bound := fun h => h
  move := fun _ h => h
set_option maxRecDepth 100000 in
set_option maxHeartbeats 4000000 in
theorem specs0_calls (A : Option Addr) (c : Nat) (w : World) : Calls Tryz.prog 28 #[.slice A 0 c] w fun e w' => e = .returned (.slice none 0 0) ∧ w' = w := by
  go_enter Tryz.func28, Tryz.ntmps28
  go_wp2_with fail
  refine wp_loop_rounds 1 ?_
  rw [rounds_succ]
  go_wp2_with fail
  go_ret
  exact ⟨rfl, rfl⟩
set_option maxRecDepth 100000 in
set_option maxHeartbeats 4000000 in
theorem specs1_calls (m t q : Nat) (R : Value) (nm pt : ByteArray) (un fd : Bool) (af : Int) (w : World) (hR : One w R m) (hm : w.heap[m]? = some (.cells #[.string nm, .string pt, .bool un, .pointer (some ⟨t, 0, none⟩), .pointer (some ⟨q, 0, none⟩), .int .i64 af, .bool fd] 98 (0, 0))) :
    Calls Tryz.prog 28 #[R] w fun e w' => ∃ A k, e = .returned (.slice A 1 k) ∧ Below w.heap.size w w' := by
  obtain ⟨g, k, rfl, h1, h2, h3, _⟩ := hR.row
  have lg := World.block_lt_of_cell? w _ h3
  have cm := blk_cells hm
  have lm := blk_lt hm
  have HL := Ap.of (And.intro hR hm)
  obtain ⟨i0, hi, hzz⟩ := Option.map_eq_some_iff.1 Tryz.infoSpB
  simp only [Prod.mk.injEq] at hzz
  have HI := Ap.of (And.intro hi hzz)
  clear hi hzz hR hm
  go_enter Tryz.func28, Tryz.ntmps28
  go_wp2_with fail
  refine wp_loop_rounds 2 ?_
  rw [rounds_succ]
  go_wp2_with (at_builtin; refine wp_append (K := KSpc) (tx := 30) (e := 30) (B := 0) (ok := fun _ => True) (okx := fun _ => True) (v := .slice none 0 0) (xs := []) (x := (nm, pt, un)) (cs := [.string nm, .string pt, .bool un]) rfl _ _ 42 i0 _ 40 rfl Tryz.underlying42 HI.out.1 HI.out.2.1 HI.out.2.2.1 HI.out.2.2.2 rfl (Nat.succ_pos 2) rfl rfl ?a1 ?a2 ?a3 ?a4 ?a5 ?a6 ?a7 ?a8 ?_)
  case a1 => exact Own.nil _ _ _ _ _
  case a2 => exact blk_new (by simp)
  case a3 => rfl
  case a4 => exact fun j _ => ⟨trivial, fun h => nomatch h⟩
  case a5 => exact fun _ _ => trivial
  case a6 => simp
  case a7 => simp
  case a8 => exact Nat.zero_le _
  intro v8 w8 hown honly
  have HB8 := Ap.of (show Below w.heap.size w w8 from bel_step (bel_alloc w _) (honly.below (Nat.le_refl _) (fun i hi => nomatch hi)))
  obtain ⟨A8, c8, hv8, _, _⟩ := hown.slice
  rw [show ([(nm, pt, un)] : List (ByteArray × ByteArray × Bool)).length = 1 from rfl] at hv8
  subst hv8
  clear hown honly
  go_wp2_with fail
  rw [rounds_succ]
  go_wp2_with fail
  go_ret
  exact ⟨_, _, rfl, HB8.out⟩
end Go.Proofs.YtecfaaeaipjlaaaGreatDoor
