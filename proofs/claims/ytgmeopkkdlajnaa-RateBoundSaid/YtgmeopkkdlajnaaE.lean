/- A list of deeds that came in, opened to its cells. -/
import Derived.Test.YtgmeopkkdlajnaaD
import Derived.ProofKit
import Derived.OpenShut
import Derived.Below
namespace Go.Proofs.Ytgmeopkkdlajnaa
open Go.ChangeShapes Go.WideShapes Go.ChangeAt Go.RowKit Go.Deep

theorem Try.laidOut_ : laidOutB Try.prog = true := by kernel_rfl
theorem Try.cells27_ : Try.prog.cellsOf 27 = 3 := by kernel_rfl
section
variable {H : Type} {enc : TypeId × Value → H} {w : World}
theorem acts_open {A : Option Addr} {len cap : Nat} {d : DataW H} {p : List MemPlace} (h : DataW.Trod enc Try.prog w 0 (fun _ => true) true 22 (.slice A len cap) d p) :
    len ≤ cap ∧ cap ≤ maxLen ∧ (A = none → cap = 0) ∧ ∃ xs, ActsAt w A len cap xs := by
  obtain ⟨fuel, hf⟩ := h
  have hf' : DataW.trod enc Try.prog w 0 (fun _ => true) true fuel 22 [.slice A len cap] = some (d, p) := by simpa [Value.cells] using hf
  rcases open_slice Try.underlying22 hf' with ⟨hcs, _⟩ | ⟨a, len', cap', m, n, D, Pl, hcs, _, hl, hm, hmm, hx, hi⟩
  · simp at hcs
    obtain ⟨rfl, rfl, rfl⟩ := hcs
    exact ⟨Nat.le_refl _, by unfold maxLen; omega, fun _ => rfl, [], .inl ⟨rfl, rfl, rfl⟩⟩
  · simp at hcs
    obtain ⟨rfl, rfl, rfl⟩ := hcs
    refine ⟨hl, hm, fun h => by simp at h, ?_⟩
    rcases Nat.eq_zero_or_pos len with rfl | hpos
    · exact ⟨[], .inr (.inl rfl)⟩
    have hmc : m = cap := by simpa using hmm
    rw [Try.cells27_] at hi
    have hspot : a.spot = none := by
      obtain ⟨cs', hc, _⟩ := hi 0 (by omega)
      obtain ⟨_, _, hat⟩ := World.cells?_some hc
      obtain ⟨_, hcl, _⟩ := World.cells?_some hc
      have h0 := hat 0 (by omega)
      have hv : cs'[0]? = some (cs'[0]'(by omega)) := List.getElem?_eq_getElem (by omega)
      rw [hv] at h0
      have := World.cell?_spot h0
      simpa [Addr.add] using this
    obtain ⟨b, off, spot⟩ := a
    obtain rfl : spot = none := hspot
    have key : ∀ i, i < len → ∃ c : Act, w.cell? ⟨b, off + i * 3, none⟩ = some (.bool c.take) ∧ w.cell? ⟨b, off + i * 3 + 1, none⟩ = some (.bool c.raw) ∧ w.cell? ⟨b, off + i * 3 + 2, none⟩ = some (.int .i64 c.n) ∧ -9223372036854775808 ≤ c.n ∧ c.n ≤ 9223372036854775807 := by
      intro i hlt
      obtain ⟨cs', hc, ht'⟩ := hi i (by omega)
      obtain ⟨_, hcl, hat⟩ := World.cells?_some hc
      obtain ⟨ys, n', _, _, _, hyl, hfl⟩ := DataW.trod_struct Try.underlying27 ht'
      match cs', hcl with
      | [c0, c1, c2], _ =>
      have k4 : Try.prog.cellsOf 4 = 1 := by kernel_rfl
      have k3 : Try.prog.cellsOf 3 = 1 := by kernel_rfl
      have t0 : ∃ y, DataW.trod enc Try.prog w 0 (fun _ => true) true n' 4 [c0] = some y := by
        refine ⟨_, ((?_ : _ = _).trans (hfl 0 _ rfl)).trans (List.getElem?_eq_getElem (by rw [hyl]; decide))⟩
        show _ = DataW.trod enc Try.prog w 0 (fun _ => true) true n' 4 (List.take (Try.prog.cellsOf 4) (List.drop 0 [c0, c1, c2]))
        rw [k4]; rfl
      have t1 : ∃ y, DataW.trod enc Try.prog w 0 (fun _ => true) true n' 4 [c1] = some y := by
        refine ⟨_, ((?_ : _ = _).trans (hfl 1 _ rfl)).trans (List.getElem?_eq_getElem (by rw [hyl]; decide))⟩
        show _ = DataW.trod enc Try.prog w 0 (fun _ => true) true n' 4 (List.take (Try.prog.cellsOf 4) (List.drop 1 [c0, c1, c2]))
        rw [k4]; rfl
      have t2 : ∃ y, DataW.trod enc Try.prog w 0 (fun _ => true) true n' 3 [c2] = some y := by
        refine ⟨_, ((?_ : _ = _).trans (hfl 2 _ rfl)).trans (List.getElem?_eq_getElem (by rw [hyl]; decide))⟩
        show _ = DataW.trod enc Try.prog w 0 (fun _ => true) true n' 3 (List.take (Try.prog.cellsOf 3) (List.drop 2 [c0, c1, c2]))
        rw [k3]; rfl
      obtain ⟨y0, t0⟩ := t0
      obtain ⟨y1, t1⟩ := t1
      obtain ⟨y2, t2⟩ := t2
      obtain ⟨x0, e0, _⟩ := DataW.trod_bool Try.underlying4 t0
      obtain ⟨x1, e1, _⟩ := DataW.trod_bool Try.underlying4 t1
      obtain ⟨x2, e2, _, hw2⟩ := DataW.trod_int Try.underlying3 t2
      have b2 : -9223372036854775808 ≤ x2 ∧ x2 ≤ 9223372036854775807 := by simpa [Lit.wf, IntKind.min, IntKind.max, IntKind.signed, IntKind.bits] using hw2
      refine ⟨⟨x0, x1, x2⟩, ?_, ?_, ?_, b2.1, b2.2⟩
      · have := hat 0 (by decide)
        simp [add_plain] at e0 this
        rw [this, e0]
      · have := hat 1 (by decide)
        simp [add_plain] at e1 this
        rw [this, e1]
      · have := hat 2 (by decide)
        simp [add_plain] at e2 this
        rw [this, e2]
    obtain ⟨f, hf2⟩ := choose_lt key
    refine ⟨(List.range len).map f, .inr (.inr ⟨b, off, rfl, ?_, fun i hlt => ?_⟩)⟩
    · exact World.block_lt_of_cell? w _ (hf2 0 hpos).1
    · have e : ((List.range len).map f)[i]?.getD default = f i := by simp [hlt]
      rw [e]
      exact hf2 i hlt
end
end Go.Proofs.Ytgmeopkkdlajnaa
