/- roundelaylaw05.Put: a value's key by definition. -/
import Derived.Test.YtlomieopppndeaaDoorLKey
namespace Go.Proofs.YtlomieopppndeaaDoor
open Go.RowKit

/-- string([]byte{u}), the byte in the youngest block. -/
theorem conv1 (W : World) (u : UInt8) (g : Nat) (c : Int) (hc : c = (u.toNat : Int)) (hg : g = W.heap.size) : (convert 22 9 (.slice (some ⟨g, 0, none⟩) 1 1)).run Tryd.prog (W.alloc (.cells #[.int .u8 c] 5)) = .ok (.string ⟨#[u]⟩) (W.alloc (.cells #[.int .u8 c] 5)) :=
  run_convert_bytes_back (P := Tryd.prog) _ 22 9 5 ⟨g, 0, none⟩ 1 [u] Tryd.underlying22 Tryd.underlying5 Tryd.underlying9 (fun j hj => by
    obtain rfl : j = 0 := by simpa using hj
    rw [show (⟨g, 0, none⟩ : Addr).add 0 = ⟨g, 0, none⟩ from rfl, blk_cells (blk_new hg), hc]
    rfl)
set_option maxRecDepth 100000 in
set_option maxHeartbeats 4000000 in
theorem lput_null (e : Nat) (x : Val) (la : Option Addr) (ln lc : Nat) (fa : Option Addr) (fn fc : Nat) (w : World) (hk : x.kind = 0) :
    Calls Tryd.prog 19 #[.agg #[.int .i64 x.kind, .int .i64 x.int, .string x.text, .slice la ln lc, .slice fa fn fc]] w (PutP (e + 1) x w) := by
  have HO := Ap.of (show keyB (e + 1) x = ⟨([1] : List UInt8).toArray⟩ by unfold keyB keyL; rw [hk]; rfl)
  unfold PutP
  generalize keyB (e + 1) x = out at *
  generalize x.int = xi at *
  generalize x.text = xt at *
  generalize x.kind = xk at *
  subst hk
  have hcv := conv1 (w.alloc (.cells #[.int .i64 0, .int .i64 xi, .string xt, .slice la ln lc, .slice fa fn fc] 29)) 1 (w.heap.size + 1) 1 rfl (by simp)
  go_enter Tryd.func19, Tryd.ntmps19
  go_wp2_with fail
  go_ret
  exact ⟨by rw [HO.out]; rfl, bel_step (bel_alloc _ _) (bel_alloc _ _)⟩
theorem sh_byte (m i : Nat) : (m : Int) / 2 ^ (8 * (i + 1) - 8) % 256 = ((UInt8.ofNat (m / 256 ^ i % 256)).toNat : Int) := by
  have e : 8 * (i + 1) - 8 = 8 * i := by omega
  have e2 : (2 : Nat) ^ (8 * i) = 256 ^ i := by rw [Nat.pow_mul]
  have e3 : (m : Int) / 2 ^ (8 * i) % 256 = ((m / 2 ^ (8 * i) % 256 : Nat) : Int) := by
    rw [Int.natCast_emod, Int.natCast_ediv, Int.natCast_pow]
    rfl
  rw [e, e3, e2, UInt8.toNat_ofNat', Nat.mod_mod]
theorem be_step (acc : ByteArray) (i m : Nat) (X : List UInt8) (h : acc ++ ⟨(beL (i + 1) m).toArray⟩ = ⟨X.toArray⟩) : (acc ++ ⟨#[UInt8.ofNat (m / 256 ^ i % 256)]⟩) ++ ⟨(beL i m).toArray⟩ = ⟨X.toArray⟩ := by
  rw [← h, beL_cons]
  apply ByteArray.ext
  simp
theorem ba_nil (acc : ByteArray) : acc ++ ⟨([] : List UInt8).toArray⟩ = acc := by
  apply ByteArray.ext
  simp
set_option maxRecDepth 100000 in
set_option maxHeartbeats 4000000 in
theorem lput_int (e : Nat) (x : Val) (la : Option Addr) (ln lc : Nat) (fa : Option Addr) (fn fc : Nat) (w : World) (hk : x.kind = 2) (hi : inI64 x.int) :
    Calls Tryd.prog 19 #[.agg #[.int .i64 x.kind, .int .i64 x.int, .string x.text, .slice la ln lc, .slice fa fn fc]] w (PutP (e + 1) x w) := by
  obtain ⟨m, hm⟩ : ∃ m : Nat, m = (x.int + 9223372036854775808).toNat := ⟨_, rfl⟩
  have HT := num_turn x.int hi
  have HO := Ap.of (show keyB (e + 1) x = ⟨([3] ++ beL 8 m : List UInt8).toArray⟩ by unfold keyB keyL; rw [hk, hm]; rfl)
  rw [← hm] at HT
  unfold PutP
  generalize keyB (e + 1) x = out at *
  clear hm hi
  generalize x.int = xi at *
  generalize x.text = xt at *
  generalize x.kind = xk at *
  subst hk
  have hcv := conv1 (w.alloc (.cells #[.int .i64 2, .int .i64 xi, .string xt, .slice la ln lc, .slice fa fn fc] 29)) 3 (w.heap.size + 1) 3 rfl (by simp)
  go_enter Tryd.func19, Tryd.ntmps19
  go_wp2_with fail
  go_loopw [3, 5] (fun v3 v5 wr => ∃ (j : Nat) (acc : ByteArray), j ≤ 8 ∧ v5 = .int .i64 (8 * (j : Int) - 8) ∧ v3 = .string acc ∧ Ap (acc ++ ⟨(beL j m).toArray⟩ = ⟨([3] ++ beL 8 m : List UInt8).toArray⟩) ∧ Ap (Below w.heap.size w wr)) (fun _ v5 _ => (intOf v5 + 8).toNat)
  case atStart => exact ⟨8, _, Nat.le_refl _, rfl, rfl, Ap.of (cat2 [3] (beL 8 m)), Ap.of (bel_step (bel_alloc _ _) (bel_alloc _ _))⟩
  case round =>
    obtain ⟨j, acc, hj, rfl, rfl, HA, BL⟩ := hrel
    have hsz : acc.size + (beL j m).length = 9 := by
      have h := congrArg ByteArray.size HA.out
      rw [ByteArray.size_append] at h
      have h1 : (⟨(beL j m).toArray⟩ : ByteArray).size = (beL j m).length := List.size_toArray
      have h2 : (⟨([3] ++ beL 8 m : List UInt8).toArray⟩ : ByteArray).size = ([3] ++ beL 8 m : List UInt8).length := List.size_toArray
      rw [h1, h2, List.length_append, be_len 8] at h
      simpa using h
    have z1 : ¬ 9223372036854775807 < acc.size + 1 := by omega
    clear hsz
    by_cases h0 : j = 0
    · subst h0
      have HE := Ap.of ((ba_nil acc).symm.trans HA.out)
      clear hcv
      go_wp2_with fail
      go_ret
      exact ⟨by rw [HO.out, ← HE.out]; rfl, BL.out⟩
    · obtain ⟨i, rfl⟩ : ∃ i, j = i + 1 := ⟨j - 1, by omega⟩
      have hcw := conv1 wr (UInt8.ofNat (m / 256 ^ i % 256)) wr.heap.size ((m : Int) / 2 ^ (8 * (i + 1) - 8) % 256) (sh_byte m i) rfl
      have hge : (8 : Int) ≤ 8 * ((i : Int) + 1) := by omega
      have HST := Ap.of (be_step acc i m _ HA.out)
      clear hcv
      generalize UInt8.ofNat (m / 256 ^ i % 256) = u at *
      go_wp2_with fail
      go_roundw
      case rel => exact ⟨i, _, by omega, by congr 1; omega, rfl, HST, Ap.of (bel_stepB BL.out BL.out.size (bel_alloc _ _))⟩
      case measure => simp [intOf]; omega
end Go.Proofs.YtlomieopppndeaaDoor
