/- Plain laws of a bucket's numbers, and a contract that leaves the time open. -/
import Derived.Test.YtgmeopkkdlajnaaB
namespace Go.Proofs.Ytgmeopkkdlajnaa
open Go.RowKit Go.Proofs.YtgmeopkkdlajnaaW.PrintWords Go.Proofs.YtgmeopkkdlajnaaW.PrintLast Go.Proofs.YtgmeopkkdlajnaaW.PrintMore
open PRateActs (IsS39 cellS39_0 cellS39_1 cellS39_2 cellS39_3)

theorem left_o {r bu l a : Int} (ok : Okb r bu l a) (now : Int) {g : Nat} {w0 w : World} (hB : Below w0.heap.size w0 w) (hI : IsS39 w0 w g r bu l a) :
    Calls Try.prog 13 #[.pointer (some ⟨g, 0, none⟩), .int .i64 now] w fun e w' => e = .returned (.int .i64 (lAt r bu l a now)) ∧ Aside0 (IsS39 w0 w' g r bu (lAt r bu l a now) (tAt a now)) ∧ Aside0 (Below w0.heap.size w0 w') ∧ Aside0 (Kept w w' (· = g)) :=
  left_v ok now _ _ rfl rfl hB hI
theorem take_o {r bu l a : Int} (ok : Okb r bu l a) (now : Int) {g : Nat} {w0 w : World} (hB : Below w0.heap.size w0 w) (hI : IsS39 w0 w g r bu l a) :
    Calls Try.prog 12 #[.pointer (some ⟨g, 0, none⟩), .int .i64 now] w fun e w' => e = .returned (.bool (tookAt r bu l a now)) ∧ Aside0 (IsS39 w0 w' g r bu (restAt r bu l a now) (tAt a now)) ∧ Aside0 (Below w0.heap.size w0 w') ∧ Aside0 (Kept w w' (· = g)) :=
  take_v ok now _ _ _ rfl rfl rfl hB hI

theorem tAt_0 : tAt 0 0 = 0 := by decide
theorem tAt_in {a now : Int} (h0 : a ≤ now) (h1 : now ≤ 1099511627776) : tAt a now = now := by unfold tAt mn mx; split <;> split <;> omega
theorem tAt_tAt (a x y : Int) (h : tAt a x ≤ tAt a y) (ha : a ≤ 1099511627776) : tAt (tAt a x) y = tAt a y := by
  unfold tAt mn mx at *; (repeat' split) <;> (repeat' split at h) <;> omega
/-- Time that passes in two parts. -/
theorem lAt_split {r bu l a : Int} (ok : Okb r bu l a) (x y : Int) (h : tAt a x ≤ tAt a y) : lAt r bu (lAt r bu l a x) (tAt a x) y = lAt r bu l a y := by
  have ht := tAt_ge (now := x) ok.a1
  have hy := tAt_ge (now := y) ok.a1
  have e := tAt_tAt a x y h ok.a1
  unfold lAt
  rw [e]
  generalize tAt a x = p at *
  generalize tAt a y = q at *
  have m1 : 0 ≤ r * (q - p) := Int.mul_nonneg ok.r0 (by omega)
  have m3 : r * (q - a) = r * (p - a) + r * (q - p) := by rw [← Int.mul_add]; congr 1; omega
  rw [m3]
  generalize r * (q - p) = u at *
  generalize r * (p - a) = v at *
  unfold mn
  split <;> split <;> split <;> omega

theorem lAt_stay {r bu l a : Int} (ok : Okb r bu l a) {x : Int} (h : tAt a x = a) : lAt r bu l a x = l := by
  have := ok.l1
  unfold lAt mn
  rw [h]
  simp
  omega
theorem rest_stay {r bu l a : Int} (ok : Okb r bu l a) {x : Int} (h : tAt a x = a) : restAt r bu l a x = if l = 0 then 0 else l - 1 := by
  unfold restAt; rw [lAt_stay ok h]
theorem took_stay {r bu l a : Int} (ok : Okb r bu l a) {x : Int} (h : tAt a x = a) : tookAt r bu l a x = !(l == 0) := by
  unfold tookAt; rw [lAt_stay ok h]
/-- A time that isn't behind one that was told, or not ahead of it. -/
theorem tAt_back {now x : Int} (h : x ≤ now) : tAt (tAt 0 now) x = tAt 0 now := by
  unfold tAt mn mx; (repeat' split) <;> omega
def aK (now : Int) (k : Nat) : Int := if k = 0 then 0 else tAt 0 now
theorem aK_0 (now : Int) : aK now 0 = 0 := rfl
/-! Without a rate. -/
theorem tAt_k (k : Nat) (h : k ≤ 1100) : tAt ((k - 1 : Nat) : Int) k = k := tAt_in (by omega) (by omega)
theorem lAt_0 {bu l a : Int} (ok : Okb 0 bu l a) (x : Int) : lAt 0 bu l a x = l := by
  have := ok.l1
  unfold lAt mn
  simp
  omega
theorem nR_0 (r : Int) : nR (mn r 0) = 0 := by unfold nR mn mx; (repeat' split) <;> omega
theorem aK_s (now : Int) (k : Nat) : tAt (aK now k) now = aK now (k + 1) := by
  unfold aK
  rw [if_neg (by omega : ¬ k + 1 = 0)]
  split
  · rfl
  · exact tAt_back (by omega)
end Go.Proofs.Ytgmeopkkdlajnaa
