/- strings.Builder's WriteByte, WriteString: the shelf's contracts at this dump. -/
import Derived.Test.YtlomieopppndeaaGreatDoorShelf
namespace Go.Proofs
open Go.Shelf Go.RowKit
def Tryz.laysW_ren : Go.Shelf.Ren := ⟨fun | 167 => 96 | n => Tryz.lays155_ren.f n, Tryz.lays155_ren.t, Tryz.lays155_ren.g⟩
theorem Tryz.laysW : Go.Proofs.Lays.n167 Tryz.prog Tryz.laysW_ren := {
  Tryz.lays155 with
  f167 := Tryz.func96.trans (congrArg some (by kernel_rfl))
  f240 := Tryz.lays155.f240.trans (congrArg some (by kernel_rfl))
  f276 := Tryz.lays155.f276.trans (congrArg some (by kernel_rfl)) }
theorem Tryz.Builder_Extra_W : Builder.Extra Tryz.prog Tryz.laysW_ren := {
  Tryz.Builder_Extra_155 with
  sizeBuilder := by kernel_rfl
  liesBuilder := by kernel_rfl }
theorem Tryz.Builder_WriteByte (B b : Nat) (bs : List Value) (c : Int) (w : World) (h : Lib.IsBuilder 146 5 B b bs w) (hlen : bs.length + 1 ≤ 140737488355328) (hBw : B ≤ w.heap.size) :
    Calls Tryz.prog 96 #[.pointer (some ⟨b, 0, none⟩), .int .u8 c] w fun e w' => e = .returned .nilIface ∧ (Lib.BuilderAt 146 5 B b (.pointer (some ⟨b, 0, none⟩)) (bs ++ [.int .u8 c]) w' ∧ Below B w w') := Any.Builder_WriteByte Tryz.laysW Tryz.Builder_Extra_W B b bs c w h hlen hBw
theorem Tryz.Builder_WriteString (B b : Nat) (bs : List Value) (s : ByteArray) (w : World) (h : Lib.IsBuilder 146 5 B b bs w) (hlen : bs.length + s.size ≤ 140737488355328) (hBw : B ≤ w.heap.size) :
    Calls Tryz.prog 97 #[.pointer (some ⟨b, 0, none⟩), .string s] w fun e w' => e = .returned (.tuple #[.int .i64 s.size, .nilIface]) ∧ (Lib.BuilderAt 146 5 B b (.pointer (some ⟨b, 0, none⟩)) (bs ++ Lib.strCells s) w' ∧ Below B w w') := Any.Builder_WriteString { Tryz.lays155 with } Tryz.Builder_Extra_155 B b bs s w h hlen hBw
end Go.Proofs
