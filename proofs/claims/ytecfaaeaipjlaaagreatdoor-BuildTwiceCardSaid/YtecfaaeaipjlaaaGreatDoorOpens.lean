/- What comes in: bytes; tables of texts that the program's text lays. -/
import Derived.Test.YtecfaaeaipjlaaaGreatDoorData
import Derived.Lib.LaidU8
import Derived.ProofKit
import Derived.OpenShut
import Derived.ChangeSlices
namespace Go.Proofs.YtecfaaeaipjlaaaGreatDoor
open Go.RowKit

theorem cellsU8 : Tryz.prog.cellsOf 5 = 1 := by kernel_rfl
theorem cell_nospot {w : World} {a : Addr} {v : Value} (h : w.cell? a = some v) (hn : a.spot ≠ none) : False := by
  have := World.cell?_spot h
  exact hn this
theorem bytes_open {H : Type} {enc : TypeId × Value → H} {W : World} {A : Option Addr} {n c : Nat} {d : DataW H} {ps : List MemPlace} (h : DataW.Trod enc Tryz.prog W 0 (fun _ => true) true 53 (.slice A n c) d ps) : Bs W (fun k => k < W.heap.size) A n c := by
  obtain ⟨fuel, hf⟩ := h
  rcases Go.ChangeShapes.open_ints Tryz.underlying53 Tryz.underlying5 cellsU8 hf with ⟨e, _⟩ | ⟨a, len, cap, zs, e, _, hl, hm, hzl, _, hcell, hwf⟩
  · simp [Value.cells] at e
    obtain ⟨rfl, rfl, rfl⟩ := e
    exact ⟨Nat.le_refl _, by omega, fun _ => rfl, .inl rfl⟩
  · simp [Value.cells] at e
    obtain ⟨rfl, rfl, rfl⟩ := e
    simp at hzl
    unfold maxLen at hm
    refine ⟨hl, hm, (fun e => by cases e), ?_⟩
    rcases Nat.eq_zero_or_pos n with h0 | h0
    · exact .inl h0
    · have h1 := hcell 0 (by omega)
      have hs : (a.add 0).spot = none := World.cell?_spot h1
      obtain ⟨g, off, sp⟩ := a
      obtain rfl : sp = none := by
        cases sp with
        | none => rfl
        | some s => simp [Addr.add] at hs
      have ha : ∀ i, (⟨g, off, none⟩ : Addr).add i = ⟨g, off + i, none⟩ := fun i => by simp [Addr.add]
      refine .inr ⟨g, off, rfl, ?_, ?_, fun i hi => ?_⟩
      · rw [ha] at h1; exact World.block_lt_of_cell? W _ h1
      · rw [ha] at h1; exact World.block_lt_of_cell? W _ h1
      · have hi' := hcell i (by omega)
        rw [ha] at hi'
        have hw := bounds_u8 (hwf (zs.getD i 0) (by rw [List.getD_eq_getElem?_getD, List.getElem?_eq_getElem (by omega)]; exact List.getElem_mem _))
        exact ⟨_, hi', hw⟩

/-- An array of texts that reads as these. -/
theorem cells_of_strs {H : Type} {enc : TypeId × Value → H} {P : Program} {w : World} {base : Nat} {sp : Nat → Bool} {held : Bool} {fuel : Nat} {t e : TypeId} {n : Nat} {cs : List Value} {zs : List (List UInt8)} {p : List MemPlace}
    (ht : P.underlying t = some (.array n e)) (he : P.underlying e = some .string) (hce : P.cellsOf e = 1) (hct : P.cellsOf t = n)
    (h : DataW.trod enc P w base sp held fuel t cs = some (.agg (zs.map fun z => .lit (.string z)), p)) : cs = zs.map fun z => Value.string ⟨z.toArray⟩ := by
  cases fuel with
  | zero => simp [DataW.trod] at h
  | succ fuel =>
    simp only [DataW.trod, ht, hce, hct, Nat.mul_one] at h
    split at h
    · rename_i hl
      obtain ⟨xs, hm, hx⟩ := Option.map_eq_some_iff.1 h
      have hxs : xs.map (·.1) = zs.map fun z => (DataW.lit (.string z) : DataW H) := by
        have := congrArg Prod.fst hx
        simpa using this
      have hxl : xs.length = n := by simpa using Lib.mapM_length hm
      have hzl : zs.length = n := by
        have := congrArg List.length hxs
        simp at this
        omega
      apply List.ext_getElem?
      intro i
      by_cases hi : i < n
      · obtain ⟨b, hb, hf⟩ := Lib.mapM_at hm i i (by simp [hi])
        obtain ⟨z, hc, rfl, _⟩ := DataW.trod_string he hf
        have h1 : cs[i]? = some (.string z) := by
          have := congrArg (·[0]?) hc
          simpa [List.getElem?_take, List.getElem?_drop] using this
        have h2 : (xs.map (·.1))[i]? = some (DataW.lit (.string z.data.toList) : DataW H) := by simp [hb]
        rw [hxs] at h2
        simp only [List.getElem?_map, Option.map_eq_some_iff, DataW.lit.injEq, Lit.string.injEq] at h2
        obtain ⟨z', hz', rfl⟩ := h2
        simp [h1, hz']
      · rw [List.getElem?_eq_none (by omega), List.getElem?_eq_none (by simp; omega)]
    · cases h
theorem strs_reads {P : Program} {W : World} {name : String} {zs : List ByteArray} {g : Nat} {t e : TypeId} {n : Nat} (hg : P.globalNamed name = some g) (hty : (P.globals[g]?).map (·.type) = some t) (ht : P.underlying t = some (.array n e)) (he : P.underlying e = some .string)
    (hce : P.cellsOf e = 1) (hct : P.cellsOf t = n) (h : Lib.VarReads P W name (.agg ((zs.map (·.data.toList)).map fun z => .lit (.string z)))) (j : Nat) (s : ByteArray) (hj : zs[j]? = some s) : W.cell? ⟨g, j, none⟩ = some (.string s) := by
  obtain ⟨g', t', cs, fuel, p, hg', ht', hvar, hd⟩ := h
  obtain rfl := Option.some.inj (hg.symm.trans hg')
  obtain rfl := Option.some.inj (hty.symm.trans ht')
  have hcs := cells_of_strs ht he hce hct hd
  have h1 := World.var?_cell hg hvar j
  rw [h1]
  have h2 : cs[j]? = cs.toList[j]? := by simp
  rw [h2, hcs]
  simp only [List.getElem?_map, hj, Option.map_some]
end Go.Proofs.YtecfaaeaipjlaaaGreatDoor
