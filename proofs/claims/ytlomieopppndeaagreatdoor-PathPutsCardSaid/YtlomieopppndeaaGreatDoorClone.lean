/- slices.Clone, of fields and of values. -/
import Derived.Test.YtlomieopppndeaaGreatDoorRowLaw
namespace Go.Proofs.YtlomieopppndeaaGreatDoor
open Go.RowKit

theorem Tryz.infoVc : (Tryz.prog.info? 28).map (fun i => (i.zero, i.size, i.bytes)) = some (some (.agg #[.int .i64 0, .int .i64 0, .string ⟨#[]⟩, .slice none 0 0, .slice none 0 0]), 5, 80) := by kernel_rfl
theorem Tryz.infoFc : (Tryz.prog.info? 37).map (fun i => (i.zero, i.size, i.bytes)) = some (some (.agg #[.string ⟨#[]⟩, .int .i64 0, .int .i64 0, .string ⟨#[]⟩, .slice none 0 0, .slice none 0 0]), 6, 96) := by kernel_rfl

/-- A row of one's own that holds what a row held. -/
def ClonedP {α : Type} (K : Knd α) (e : TypeId) (w : World) (ok : Nat → Prop) (xs : List α) (en : Ending) (w' : World) : Prop :=
  ∃ v, en = .returned v ∧ Own K e w.heap.size w' (fun k => (ok k ∧ k < w.heap.size) ∨ w.heap.size ≤ k) v xs ∧ Below w.heap.size w w'
theorem Own.cloned {α : Type} {K : Knd α} {e : TypeId} {w w' : World} {ok : Nat → Prop} {v : Value} {xs : List α} {css : List (List Value)} (hl : css.length = xs.length) (ho : w'.ownsRow w.heap.size e K.sz v xs.length css.flatten)
    (hr : ∀ (i : Nat) (x : α), xs[i]? = some x → ∃ cs, css[i]? = some cs ∧ K.R w (fun k => ok k ∧ k < w.heap.size) x cs) (hb : Below w.heap.size w w') : Own K e w.heap.size w' (fun k => (ok k ∧ k < w.heap.size) ∨ w.heap.size ≤ k) v xs := by
  refine ⟨fun g hg => .inr (ho.lt g hg).1, css, hl, ho, fun i x hx => ?_⟩
  obtain ⟨cs, h1, h2⟩ := hr i x hx
  refine ⟨cs, h1, K.mono (fun k hk => ⟨.inl hk, fun he => ?_⟩) (Knd.below h2 hb)⟩
  have := (ho.lt k he.symm).1
  have := hk.2
  omega

section
variable (d : Nat) (A : Option Addr) (n c : Nat) (ok : Nat → Prop) (w : World)
set_option maxRecDepth 100000 in
set_option maxHeartbeats 2000000 in
theorem clonef_calls (fs : List Fld) (hn : n ≤ 1000000) (h : Row (KFld (KV d)) w ok A n c fs) : Calls Tryz.prog 104 #[.slice A n c] w (ClonedP (KFld (KV d)) 37 w ok fs) := by
  have q := fun (w : World) (a : Option Addr) (n c n' c' : Nat) => Lib.run_eql_slice_nil (P := Tryz.prog) w _ _ a n c n' c' Tryz.underlying26
  have hsz := KFld_sz d
  have hlen := h.length
  cases A with
  | none =>
    obtain ⟨_, rfl, rfl, rfl⟩ : True ∧ n = 0 ∧ c = 0 ∧ fs = [] := by
      rcases h with ⟨_, a, b, e⟩ | ⟨_, _, e, _⟩
      · exact ⟨trivial, a, b, e⟩
      · cases e
    clear h hlen hsz hn
    go_enter Tryz.func104, Tryz.ntmps104
    go_wp2
    go_ret
    exact ⟨_, rfl, Own.nil _ _ _ _ _, Below.refl _ _⟩
  | some a =>
    obtain ⟨css, hl, hr, hfl, _, hc, h1⟩ := (h.bound).flat (by rw [hsz]; omega) a rfl
    obtain ⟨i0, hi, hzz⟩ := Option.map_eq_some_iff.1 Tryz.infoFc
    simp only [Prod.mk.injEq] at hzz
    have HI := Ap.of (And.intro hi hzz)
    have HC := Ap.of (And.intro hfl (And.intro hc h1))
    have HL := Ap.of hl
    have HR := Ap.of hr
    have HS := Ap.of hsz
    have HN := Ap.of hlen
    clear hi hzz hfl hc h1 hl hr hsz h hlen
    obtain ⟨ab, ao, asp⟩ := a
    go_enter Tryz.func104, Tryz.ntmps104
    go_wp2_with (at_builtin; refine wpList_append_own _ rfl _ _ 26 rfl w.heap.size 37 i0 _ 6 96 Tryz.underlying26 HI.out.1 HI.out.2.1 HI.out.2.2.1 HI.out.2.2.2 rfl (by omega) _ _ _ rfl (World.ownsRow_made w #[] 0 (Nat.le_refl _) (Nat.zero_le _) (by simp)) ⟨ab, ao, asp⟩ n c css.flatten rfl ?qc1 ?qc2 ?qc3 ?qc4 ?qc5 ?qc6 ?_)
    case qc1 => rw [HC.out.1, HS.out]
    case qc2 => intro j u hj; exact Lib.cell?_alloc_some _ (HC.out.2.1 j u hj)
    case qc3 => exact HC.out.2.2
    case qc4 => unfold maxLen; omega
    case qc5 => omega
    case qc6 => simp
    intro v' w1 hown hgrow hnil
    have HO := Ap.of hown
    have HG := Ap.of hgrow
    clear hown hgrow hnil
    go_wp2
    go_ret
    have hb : Below w.heap.size w w1 := ((Below.refl _ w).alloc (Nat.le_refl _) _).grown HG.out (by simp) (by intro k hk; simp [Value.ownBlock] at hk; omega)
    refine ⟨_, rfl, Own.cloned HL.out ?_ HR.out hb, hb⟩
    rw [HS.out, HN.out]
    exact HO.out
set_option maxRecDepth 100000 in
set_option maxHeartbeats 2000000 in
theorem clonev_calls (xs : List Val) (hn : n ≤ 1000000) (h : Row (KV d) w ok A n c xs) : Calls Tryz.prog 102 #[.slice A n c] w (ClonedP (KV d) 28 w ok xs) := by
  have q := fun (w : World) (a : Option Addr) (n c n' c' : Nat) => Lib.run_eql_slice_nil (P := Tryz.prog) w _ _ a n c n' c' Tryz.underlying25
  have hsz := KV_sz d
  have hlen := h.length
  cases A with
  | none =>
    obtain ⟨_, rfl, rfl, rfl⟩ : True ∧ n = 0 ∧ c = 0 ∧ xs = [] := by
      rcases h with ⟨_, a, b, e⟩ | ⟨_, _, e, _⟩
      · exact ⟨trivial, a, b, e⟩
      · cases e
    clear h hlen hsz hn
    go_enter Tryz.func102, Tryz.ntmps102
    go_wp2
    go_ret
    exact ⟨_, rfl, Own.nil _ _ _ _ _, Below.refl _ _⟩
  | some a =>
    obtain ⟨css, hl, hr, hfl, _, hc, h1⟩ := (h.bound).flat (by rw [hsz]; omega) a rfl
    obtain ⟨i0, hi, hzz⟩ := Option.map_eq_some_iff.1 Tryz.infoVc
    simp only [Prod.mk.injEq] at hzz
    have HI := Ap.of (And.intro hi hzz)
    have HC := Ap.of (And.intro hfl (And.intro hc h1))
    have HL := Ap.of hl
    have HR := Ap.of hr
    have HS := Ap.of hsz
    have HN := Ap.of hlen
    clear hi hzz hfl hc h1 hl hr hsz h hlen
    obtain ⟨ab, ao, asp⟩ := a
    go_enter Tryz.func102, Tryz.ntmps102
    go_wp2_with (at_builtin; refine wpList_append_own _ rfl _ _ 25 rfl w.heap.size 28 i0 _ 5 80 Tryz.underlying25 HI.out.1 HI.out.2.1 HI.out.2.2.1 HI.out.2.2.2 rfl (by omega) _ _ _ rfl (World.ownsRow_made w #[] 0 (Nat.le_refl _) (Nat.zero_le _) (by simp)) ⟨ab, ao, asp⟩ n c css.flatten rfl ?qc1 ?qc2 ?qc3 ?qc4 ?qc5 ?qc6 ?_)
    case qc1 => rw [HC.out.1, HS.out]
    case qc2 => intro j u hj; exact Lib.cell?_alloc_some _ (HC.out.2.1 j u hj)
    case qc3 => exact HC.out.2.2
    case qc4 => unfold maxLen; omega
    case qc5 => omega
    case qc6 => simp
    intro v' w1 hown hgrow hnil
    have HO := Ap.of hown
    have HG := Ap.of hgrow
    clear hown hgrow hnil
    go_wp2
    go_ret
    have hb : Below w.heap.size w w1 := ((Below.refl _ w).alloc (Nat.le_refl _) _).grown HG.out (by simp) (by intro k hk; simp [Value.ownBlock] at hk; omega)
    refine ⟨_, rfl, Own.cloned HL.out ?_ HR.out hb, hb⟩
    rw [HS.out, HN.out]
    exact HO.out
end
end Go.Proofs.YtlomieopppndeaaGreatDoor
