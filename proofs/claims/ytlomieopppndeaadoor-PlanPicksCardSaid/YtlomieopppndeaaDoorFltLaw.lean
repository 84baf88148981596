/- Filters: whether a value meets one. -/
import Derived.Test.YtlomieopppndeaaDoorFltKnd
import Derived.Test.YtlomieopppndeaaDoorCmpLaw
namespace Go.Proofs.YtlomieopppndeaaDoor
open Go.RowKit

def foundV (v : Val) (p : ByteArray) : Option Val := if pathOk p = true then v.find (partsOf p) else none
def oneK (fo k : Int) (b : Bool) : Bool :=
  if fo = 8 then b else if fo = 3 then k != 0 else if fo = 5 then decide (0 < k) || k == 0 else if fo = 2 then k == 0 else if fo = 7 then k == 0 || decide (k < 0)
  else if fo = 6 then decide (k < 0) else if fo = 4 then decide (0 < k) else false
def oneD (dv : Nat) (f : Flt) (x : Val) : Bool := oneK f.op (cmpD dv x f.val) (f.val.list.any (fun y => cmpD dv x y == 0))
def condK (dv : Nat) (f : Flt) (o : Option Val) : Bool := if f.op = 9 then o.isSome == (f.val.int == 1) else match o with
  | none => f.op == 3
  | some x => oneD dv f x
def condD (dv : Nat) (f : Flt) (v : Val) : Bool := condK dv f (foundV v f.path)
def matchD (dv : Nat) : Nat → Flt → Val → Bool
  | 0, _, _ => false
  | d + 1, f, v => if f.op = 0 then f.subs.all (fun s => matchD dv d s v) else if f.op = 1 then f.subs.any (fun s => matchD dv d s v) else condD dv f v
/-- All its paths can be read. -/
def FOk : Nat → Flt → Prop
  | 0, _ => False
  | d + 1, f => f.path.size < 4294967281 ∧ ∀ s ∈ f.subs, FOk d s
end Go.Proofs.YtlomieopppndeaaDoor
