/- Values made of bytes, as the statements make them: roundelaylaw03.Of. -/
import Derived.Test.YtlomieopppndeaaDoorGen2
namespace Go.Proofs.YtlomieopppndeaaDoor
open Go.RowKit
attribute [local go_sem] max2_int min2_int

/-- A value in new memory, handed back alone. -/
def ValP (d : Nat) (w : World) (e : Ending) (w' : World) : Prop :=
  ∃ (x : Val) (la : Option Addr) (ln lc : Nat) (fa : Option Addr) (fn fc : Nat), e = .returned (.agg #[.int .i64 x.kind, .int .i64 x.int, .string x.text, .slice la ln lc, .slice fa fn fc]) ∧
    (KV d).R w' (fun k => w.heap.size ≤ k) x [.int .i64 x.kind, .int .i64 x.int, .string x.text, .slice la ln lc, .slice fa fn fc] ∧ GoodV d x ∧ Below w.heap.size w w'

set_option maxRecDepth 100000 in
set_option maxHeartbeats 1000000 in
theorem of_calls (A : Option Addr) (n c : Nat) (w : World) (ok : Nat → Prop) (hok : ∀ k, ok k → k < w.heap.size) (hL : Laid w) (hB : Bs w ok A n c) :
    Calls Tryd.prog 48 #[.slice A n c] w (ValP 4 w) := by
  obtain ⟨N, hN⟩ : ∃ N : Nat, (if 60 < (n : Int) then 60 else (n : Int)) = (N : Int) := ⟨if 60 < n then 60 else n, by split <;> split <;> omega⟩
  have hNl : N ≤ n := by split at hN <;> omega
  have hrun := cutTo A n c N hB.1 hB.2.1 hB.2.2.1 hNl
  have HB := Ap.of (hB.take hNl)
  have hn1 := hB.1
  have hn2 := hB.2.1
  have HOK := Ap.of hok
  have HL := Ap.of hL
  clear hok hL hB
  go_enter Tryd.func48, Tryd.ntmps48
  go_wp2_with fail
  refine (made_calls 3 (by decide) A N c _ ok (fun j hj => Nat.lt_of_lt_of_le (HOK.out j hj) (by simp)) (HL.out.below (bel_alloc _ _)) (HB.out.below (bel_alloc _ _))).mono ?_
  rintro e w1 ⟨x, la, ln, lc, fa, fn, fc, A2, n2, c2, rfl, hx, hg, _, hb⟩
  have b2 := blk_bel (blk_new (o := .cells #[.int .i64 0, .int .i64 0, .string ⟨#[]⟩, .slice none 0 0, .slice none 0 0] 29) (rfl : w.heap.size = w.heap.size)) hb
  have c2' := blk_cells b2
  have f2' := blk_free b2
  have h2 := blk_lt b2
  have HX := Ap.of hx
  have HG := Ap.of hg
  have HBL := Ap.of (bel_step (bel_alloc w _) hb)
  clear hx hg hb b2
  go_wp2_with fail
  have hs := (only5 w1 w.heap.size (.int .i64 x.kind) (.int .i64 x.int) (.string x.text) (.slice la ln lc) (.slice fa fn fc)).alloc (.cells #[.int .i64 x.kind, .int .i64 x.int, .string x.text, .slice la ln lc, .slice fa fn fc] 29)
  exact bodyPost_ret (v := .agg #[.int .i64 x.kind, .int .i64 x.int, .string x.text, .slice la ln lc, .slice fa fn fc]) (by simp [results, Tryd.results48, go_sem, c2', h2]) rfl
    ⟨x, la, ln, lc, fa, fn, fc, rfl, (KV 4).mono (fun j hj => by simp at hj; omega) (Knd.only HX.out hs (fun j hj he => by simp at hj; omega)), HG.out, bel_only HBL.out HBL.out.size hs (fun j he => by omega)⟩

end Go.Proofs.YtlomieopppndeaaDoor
