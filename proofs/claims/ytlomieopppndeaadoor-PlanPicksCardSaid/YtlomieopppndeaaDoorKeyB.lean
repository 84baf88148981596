/- strings.Builder behind calls that keep what there was: laws. -/
import Derived.Test.YtlomieopppndeaaDoorShelfB
import Derived.Test.YtlomieopppndeaaDoorData
namespace Go.Proofs.YtlomieopppndeaaDoor
open Go.RowKit

theorem ownsRow_below {B e n : Nat} {w w' : World} {v : Value} {xs : List Value} (h : w.ownsRow B e 1 v n xs) (hb : Below w.heap.size w w') : w'.ownsRow B e 1 v n xs := by
  refine ⟨h.1, ?_⟩
  rcases h.2 with hn | ⟨g, cap, cur, rfl, hB, hg, r⟩
  · exact .inl hn
  · exact .inr ⟨g, cap, cur, rfl, hB, blk_bel hg hb, r⟩
theorem builderAt_below {T e : TypeId} {B b : Nat} {p : Value} {bs : List Value} {w w' : World} (h : Lib.BuilderAt T e B b p bs w) (hb : Below w.heap.size w w') : Lib.BuilderAt T e B b p bs w' := by
  obtain ⟨hB, v, h1, h2, h3⟩ := h
  exact ⟨hB, v, blk_bel h1 hb, ownsRow_below h2 hb, h3⟩
theorem isBuilder_below {T e : TypeId} {B b : Nat} {bs : List Value} {w w' : World} (h : Lib.IsBuilder T e B b bs w) (hb : Below w.heap.size w w') : Lib.IsBuilder T e B b bs w' := h.imp (builderAt_below · hb) (builderAt_below · hb)
/-- Byte by byte. -/
theorem wbyte (B b : Nat) (l : List UInt8) (u : UInt8) (w : World) (h : Lib.IsBuilder 113 5 B b (Lib.byteCells l) w) (hlen : l.length + 1 ≤ 100000000) (hBw : B ≤ w.heap.size) :
    Calls Tryd.prog 55 #[.pointer (some ⟨b, 0, none⟩), .int .u8 u.toNat] w fun e w' => e = .returned .nilIface ∧ Lib.IsBuilder 113 5 B b (Lib.byteCells (l ++ [u])) w' ∧ Below B w w' :=
  (Tryd.Builder_WriteByte B b (Lib.byteCells l) u.toNat w h (by rw [Lib.byteCells_length]; omega) hBw).mono fun _ _ ⟨he, hB, hb⟩ => ⟨he, .inr (by rw [Lib.byteCells_append]; exact hB), hb⟩
theorem wstr (B b : Nat) (l m : List UInt8) (w : World) (h : Lib.IsBuilder 113 5 B b (Lib.byteCells l) w) (hlen : l.length + m.length ≤ 100000000) (hBw : B ≤ w.heap.size) :
    Calls Tryd.prog 56 #[.pointer (some ⟨b, 0, none⟩), .string ⟨m.toArray⟩] w fun e w' => (∃ n : Int, e = .returned (.tuple #[.int .i64 n, .nilIface])) ∧ Lib.IsBuilder 113 5 B b (Lib.byteCells (l ++ m)) w' ∧ Below B w w' :=
  (Tryd.Builder_WriteString B b (Lib.byteCells l) ⟨m.toArray⟩ w h (by rw [Lib.byteCells_length]; show l.length + m.toArray.size ≤ _; rw [List.size_toArray]; omega) hBw).mono fun _ _ ⟨he, hB, hb⟩ => ⟨⟨_, he⟩, .inr (by rw [Lib.byteCells_append]; exact hB), hb⟩
theorem wdone (B b : Nat) (l : List UInt8) (w : World) (h : Lib.IsBuilder 113 5 B b (Lib.byteCells l) w) (hBw : B ≤ w.heap.size) :
    Calls Tryd.prog 59 #[.pointer (some ⟨b, 0, none⟩)] w fun e w' => e = .returned (.string ⟨l.toArray⟩) ∧ Below B w w' := Tryd.Builder_String_any B b l w h hBw
end Go.Proofs.YtlomieopppndeaaDoor
