/- How values stand to one another: plain laws. -/
import Derived.Test.YtlomieopppndeaaDoorPathFind
import Derived.Lib.Bytealg
namespace Go.Proofs.YtlomieopppndeaaDoor
open Go.RowKit

def cmpI (a b : Int) : Int := if a < b then -1 else if b < a then 1 else 0
def cmpB (a b : ByteArray) : Int := Lib.compareBytes a.data.toList b.data.toList
def cmpList {α : Type} (c : α → α → Int) : List α → List α → Int
  | [], [] => 0
  | [], _ :: _ => -1
  | _ :: _, [] => 1
  | a :: r, b :: s => if c a b = 0 then cmpList c r s else c a b
theorem cmpList_cons {α : Type} (c : α → α → Int) (a b : α) (r s : List α) : cmpList c (a :: r) (b :: s) = if c a b = 0 then cmpList c r s else c a b := rfl
def cmpF (c : Val → Val → Int) (f g : Fld) : Int := if cmpB f.1 g.1 = 0 then c f.2 g.2 else cmpB f.1 g.1
def cmpD : Nat → Val → Val → Int
  | 0, _, _ => 0
  | d + 1, x, y => if x.kind = y.kind then
      if x.kind = 1 ∨ x.kind = 2 then cmpI x.int y.int else if x.kind = 3 then cmpB x.text y.text else if x.kind = 4 then cmpList (cmpD d) x.list y.list else if x.kind = 5 then cmpList (cmpF (cmpD d)) x.fields y.fields else 0
    else cmpI x.kind y.kind

theorem cmpI_self (a : Int) : cmpI a a = 0 := by unfold cmpI; rw [if_neg (by omega), if_neg (by omega)]
theorem compareBytes_self : ∀ l : List UInt8, Lib.compareBytes l l = 0
  | [] => rfl
  | a :: l => by
    rw [Lib.compareBytes, if_neg (UInt8.lt_irrefl a), if_neg (UInt8.lt_irrefl a)]
    exact compareBytes_self l
theorem cmpList_self {α : Type} (c : α → α → Int) (h : ∀ a, c a a = 0) : ∀ l : List α, cmpList c l l = 0
  | [] => rfl
  | a :: l => by rw [cmpList_cons, if_pos (h a)]; exact cmpList_self c h l
theorem cmpD_self : ∀ (d : Nat) (x : Val), cmpD d x x = 0
  | 0, _ => rfl
  | d + 1, x => by
    rw [cmpD, if_pos rfl]
    have hf : ∀ f : Fld, cmpF (cmpD d) f f = 0 := fun f => by
      unfold cmpF
      rw [if_pos (show cmpB f.1 f.1 = 0 from compareBytes_self _), cmpD_self d]
    split
    · exact cmpI_self _
    · split
      · exact compareBytes_self _
      · split
        · exact cmpList_self _ (cmpD_self d) _
        · split
          · exact cmpList_self _ hf _
          · rfl
end Go.Proofs.YtlomieopppndeaaDoor
