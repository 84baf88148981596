/- strings.Builder's WriteByte, WriteString: the shelf's contracts at this dump. -/
import Derived.Test.YtlomieopppndeaaDoorShelf
namespace Go.Proofs
open Go.Shelf Go.RowKit
def Tryd.laysW_ren : Go.Shelf.Ren := ⟨fun | 167 => 55 | n => Tryd.lays155_ren.f n, Tryd.lays155_ren.t, Tryd.lays155_ren.g⟩
theorem Tryd.laysW : Go.Proofs.Lays.n167 Tryd.prog Tryd.laysW_ren := {
  Tryd.lays155 with
  f167 := Tryd.func55.trans (congrArg some (by kernel_rfl))
  f240 := Tryd.lays155.f240.trans (congrArg some (by kernel_rfl))
  f276 := Tryd.lays155.f276.trans (congrArg some (by kernel_rfl)) }
theorem Tryd.Builder_Extra_W : Builder.Extra Tryd.prog Tryd.laysW_ren := {
  Tryd.Builder_Extra_155 with
  sizeBuilder := by kernel_rfl
  liesBuilder := by kernel_rfl }
theorem Tryd.Builder_WriteByte (B b : Nat) (bs : List Value) (c : Int) (w : World) (h : Lib.IsBuilder 113 5 B b bs w) (hlen : bs.length + 1 ≤ 140737488355328) (hBw : B ≤ w.heap.size) :
    Calls Tryd.prog 55 #[.pointer (some ⟨b, 0, none⟩), .int .u8 c] w fun e w' => e = .returned .nilIface ∧ (Lib.BuilderAt 113 5 B b (.pointer (some ⟨b, 0, none⟩)) (bs ++ [.int .u8 c]) w' ∧ Below B w w') := Any.Builder_WriteByte Tryd.laysW Tryd.Builder_Extra_W B b bs c w h hlen hBw
theorem Tryd.Builder_WriteString (B b : Nat) (bs : List Value) (s : ByteArray) (w : World) (h : Lib.IsBuilder 113 5 B b bs w) (hlen : bs.length + s.size ≤ 140737488355328) (hBw : B ≤ w.heap.size) :
    Calls Tryd.prog 56 #[.pointer (some ⟨b, 0, none⟩), .string s] w fun e w' => e = .returned (.tuple #[.int .i64 s.size, .nilIface]) ∧ (Lib.BuilderAt 113 5 B b (.pointer (some ⟨b, 0, none⟩)) (bs ++ Lib.strCells s) w' ∧ Below B w w') := Any.Builder_WriteString { Tryd.lays155 with } Tryd.Builder_Extra_155 B b bs s w h hlen hBw
end Go.Proofs
