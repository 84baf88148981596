/-
  No cell of these rows narrows 'for every input' (looked for: loops, veiled, ifaces, maps, wideKeys, modest, calm, conditions, laid).
  DERIVED. THE GIVEN ROWS OF THIS SEAT. 6 by the template 'for every input the law returns true; each argument reads behind the call as it read before'; 0 by the template 'total and deterministic' (their statements: YtgmeopkkdlajnaaTotals.lean).
  GIVEN WITH THE SEED: the statements are not yours to turn. If you find one false, say at which input.
  Laid BY PROGRAM, IN A SANDBOX (cutbox-rows.mjs): the forced cells as the released guide's own fill.sh prints them over the translation 26a6f8d8f813bc50… (all of the seat's roots in one cut). By AI agents, Wed Nov 11 2026. No macro, syntax, notation, axiom, sorry.
-/
import Derived.Test.YtgmeopkkdlajnaaChecked
import GoSem.Claim
import GoSem.ClaimJoined
import GoSem.ClaimMapViews
import Derived.JoinedTies
import Derived.KernelRfl
namespace Go.Proofs.Ytgmeopkkdlajnaa
/- THE CELL 'sum', in the pinned program and in every row, IS THE sha256 OF THE DUMP (.gsa) THAT YtgmeopkkdlajnaaProg.lean LOADS. Nothing in Lean hashes anything: it is a label: what it is worth is what the hold of that sum in a sandbox is worth. -/
noncomputable def Try.pinned : Pinned := { name := "ytgmeopkkdlajnaa", sum := "26a6f8d8f813bc50061d3018256c30b231212a12f72b81450eb6fbe732f1ecba", checked := Try.checked }
namespace Rows
def none {H : Type} : Left H := { results := [], args := [] }

/-- 'roundelaylaw15.RateActs': WHATEVER THE INPUT: true; the input reads as it did. -/
def rateActsSpec : ChangeSpec := { name := "rateActs", fn := fun _ => fun
  | [d1, d2, d3] => { results := [.lit (.bool true)], args := [d1, d2, d3] }
  | _ => none }
def rateActsRow : OpenClaim := { program := "ytgmeopkkdlajnaa", sum := "26a6f8d8f813bc50061d3018256c30b231212a12f72b81450eb6fbe732f1ecba", func := "roundelay/roundelaylaw15.RateActs", spec := "rateActs", apart := false }
def RateActsSaid : Prop := rateActsRow.holds Try.pinned (OpenSpec.ofChange rateActsSpec)

/-- ITS FALSE NEIGHBOUR: 'it returns false'. Refute it at one input. -/
def rateActsWrong : ChangeSpec := { name := "rateActs", fn := fun _ => fun
  | [d1, d2, d3] => { results := [.lit (.bool false)], args := [d1, d2, d3] }
  | _ => none }
def RateActsWrongFalsely : Prop := rateActsRow.holds Try.pinned (OpenSpec.ofChange rateActsWrong)

/-- 'roundelaylaw15.RateBound': WHATEVER THE INPUT: true; the input reads as it did. -/
def rateBoundSpec : ChangeSpec := { name := "rateBound", fn := fun _ => fun
  | [d1, d2, d3] => { results := [.lit (.bool true)], args := [d1, d2, d3] }
  | _ => none }
def rateBoundRow : OpenClaim := { program := "ytgmeopkkdlajnaa", sum := "26a6f8d8f813bc50061d3018256c30b231212a12f72b81450eb6fbe732f1ecba", func := "roundelay/roundelaylaw15.RateBound", spec := "rateBound", apart := false }
def RateBoundSaid : Prop := rateBoundRow.holds Try.pinned (OpenSpec.ofChange rateBoundSpec)

/-- ITS FALSE NEIGHBOUR: 'it returns false'. Refute it at one input. -/
def rateBoundWrong : ChangeSpec := { name := "rateBound", fn := fun _ => fun
  | [d1, d2, d3] => { results := [.lit (.bool false)], args := [d1, d2, d3] }
  | _ => none }
def RateBoundWrongFalsely : Prop := rateBoundRow.holds Try.pinned (OpenSpec.ofChange rateBoundWrong)

/-- 'roundelaylaw15.RateWaits': WHATEVER THE INPUT: true; the input reads as it did. -/
def rateWaitsSpec : ChangeSpec := { name := "rateWaits", fn := fun _ => fun
  | [d1, d2, d3] => { results := [.lit (.bool true)], args := [d1, d2, d3] }
  | _ => none }
def rateWaitsRow : OpenClaim := { program := "ytgmeopkkdlajnaa", sum := "26a6f8d8f813bc50061d3018256c30b231212a12f72b81450eb6fbe732f1ecba", func := "roundelay/roundelaylaw15.RateWaits", spec := "rateWaits", apart := false }
def RateWaitsSaid : Prop := rateWaitsRow.holds Try.pinned (OpenSpec.ofChange rateWaitsSpec)

/-- ITS FALSE NEIGHBOUR: 'it returns false'. Refute it at one input. -/
def rateWaitsWrong : ChangeSpec := { name := "rateWaits", fn := fun _ => fun
  | [d1, d2, d3] => { results := [.lit (.bool false)], args := [d1, d2, d3] }
  | _ => none }
def RateWaitsWrongFalsely : Prop := rateWaitsRow.holds Try.pinned (OpenSpec.ofChange rateWaitsWrong)

/-- 'roundelaylaw15.RateBack': WHATEVER THE INPUT: true; the input reads as it did. -/
def rateBackSpec : ChangeSpec := { name := "rateBack", fn := fun _ => fun
  | [d1, d2, d3, d4] => { results := [.lit (.bool true)], args := [d1, d2, d3, d4] }
  | _ => none }
def rateBackRow : OpenClaim := { program := "ytgmeopkkdlajnaa", sum := "26a6f8d8f813bc50061d3018256c30b231212a12f72b81450eb6fbe732f1ecba", func := "roundelay/roundelaylaw15.RateBack", spec := "rateBack", apart := false }
def RateBackSaid : Prop := rateBackRow.holds Try.pinned (OpenSpec.ofChange rateBackSpec)

/-- ITS FALSE NEIGHBOUR: 'it returns false'. Refute it at one input. -/
def rateBackWrong : ChangeSpec := { name := "rateBack", fn := fun _ => fun
  | [d1, d2, d3, d4] => { results := [.lit (.bool false)], args := [d1, d2, d3, d4] }
  | _ => none }
def RateBackWrongFalsely : Prop := rateBackRow.holds Try.pinned (OpenSpec.ofChange rateBackWrong)

/-- 'roundelaylaw15.RateSplit': WHATEVER THE INPUT: true; the input reads as it did. -/
def rateSplitSpec : ChangeSpec := { name := "rateSplit", fn := fun _ => fun
  | [d1, d2, d3, d4] => { results := [.lit (.bool true)], args := [d1, d2, d3, d4] }
  | _ => none }
def rateSplitRow : OpenClaim := { program := "ytgmeopkkdlajnaa", sum := "26a6f8d8f813bc50061d3018256c30b231212a12f72b81450eb6fbe732f1ecba", func := "roundelay/roundelaylaw15.RateSplit", spec := "rateSplit", apart := false }
def RateSplitSaid : Prop := rateSplitRow.holds Try.pinned (OpenSpec.ofChange rateSplitSpec)

/-- ITS FALSE NEIGHBOUR: 'it returns false'. Refute it at one input. -/
def rateSplitWrong : ChangeSpec := { name := "rateSplit", fn := fun _ => fun
  | [d1, d2, d3, d4] => { results := [.lit (.bool false)], args := [d1, d2, d3, d4] }
  | _ => none }
def RateSplitWrongFalsely : Prop := rateSplitRow.holds Try.pinned (OpenSpec.ofChange rateSplitWrong)

/-- 'roundelaylaw15.RateNone': WHATEVER THE INPUT: true; the input reads as it did. -/
def rateNoneSpec : ChangeSpec := { name := "rateNone", fn := fun _ => fun
  | [d1, d2] => { results := [.lit (.bool true)], args := [d1, d2] }
  | _ => none }
def rateNoneRow : OpenClaim := { program := "ytgmeopkkdlajnaa", sum := "26a6f8d8f813bc50061d3018256c30b231212a12f72b81450eb6fbe732f1ecba", func := "roundelay/roundelaylaw15.RateNone", spec := "rateNone", apart := false }
def RateNoneSaid : Prop := rateNoneRow.holds Try.pinned (OpenSpec.ofChange rateNoneSpec)

/-- ITS FALSE NEIGHBOUR: 'it returns false'. Refute it at one input. -/
def rateNoneWrong : ChangeSpec := { name := "rateNone", fn := fun _ => fun
  | [d1, d2] => { results := [.lit (.bool false)], args := [d1, d2] }
  | _ => none }
def RateNoneWrongFalsely : Prop := rateNoneRow.holds Try.pinned (OpenSpec.ofChange rateNoneWrong)

/- THE SECOND FORM. 'bulk': how many values and letters a reading holds, each counted each time it is reached (what is shared counts as often as it is met; a slice's spare places count too). A statement '..UptoSaid' is the law's where the arguments, and the package variables that the reading takes, are together of bulk at most 1048576: NARROWER than '..Said'. Prove '..Said' where nothing that the law and all that it calls make is longer than what came in: it says more and counts as full. Else prove '..UptoSaid'. A law counts once. -/
mutual
def uptoBulk {H : Type} : DataW H → Nat
  | .lit (.string bytes) => bytes.length + 1
  | .lit _ => 1
  | .nil => 1
  | .ptr d => uptoBulk d + 1
  | .slice elems spare => uptoBulkAll elems + uptoBulkAll spare + 1
  | .agg parts => uptoBulkAll parts + 1
  | .iface _ d => uptoBulk d + 1
  | .map entries => uptoBulkEntries entries + 1
  | .held _ => 1
def uptoBulkAll {H : Type} : List (DataW H) → Nat
  | [] => 0
  | d :: r => uptoBulk d + uptoBulkAll r
def uptoBulkEntries {H : Type} : List (Lit × DataW H) → Nat
  | [] => 0
  | x :: r => uptoBulkEntry x + uptoBulkEntries r
def uptoBulkEntry {H : Type} : Lit × DataW H → Nat
  | (.string bytes, d) => bytes.length + uptoBulk d + 1
  | (_, d) => uptoBulk d + 1
 end
def uptoSmall : (H : Type) → List (DataW H) → Bool := fun _ ds => decide (uptoBulkAll ds ≤ 1048576)
def OpenSpec.upto (s : _root_.Go.ChangeSpec) : _root_.Go.OpenSpec := { _root_.Go.OpenSpec.ofChange s with cond := some uptoSmall }

/-- 'roundelaylaw15.RateActs', WHERE WHAT IT READS IS OF BULK AT MOST 1048576: true; the input reads as it did. -/
def rateActsUptoRow : OpenClaim := { program := "ytgmeopkkdlajnaa", sum := "26a6f8d8f813bc50061d3018256c30b231212a12f72b81450eb6fbe732f1ecba", func := "roundelay/roundelaylaw15.RateActs", spec := "rateActs", apart := false, narrowed := true }
def RateActsUptoSaid : Prop := rateActsUptoRow.holds Try.pinned (OpenSpec.upto rateActsSpec)

/-- 'roundelaylaw15.RateBound', WHERE WHAT IT READS IS OF BULK AT MOST 1048576: true; the input reads as it did. -/
def rateBoundUptoRow : OpenClaim := { program := "ytgmeopkkdlajnaa", sum := "26a6f8d8f813bc50061d3018256c30b231212a12f72b81450eb6fbe732f1ecba", func := "roundelay/roundelaylaw15.RateBound", spec := "rateBound", apart := false, narrowed := true }
def RateBoundUptoSaid : Prop := rateBoundUptoRow.holds Try.pinned (OpenSpec.upto rateBoundSpec)

/-- 'roundelaylaw15.RateWaits', WHERE WHAT IT READS IS OF BULK AT MOST 1048576: true; the input reads as it did. -/
def rateWaitsUptoRow : OpenClaim := { program := "ytgmeopkkdlajnaa", sum := "26a6f8d8f813bc50061d3018256c30b231212a12f72b81450eb6fbe732f1ecba", func := "roundelay/roundelaylaw15.RateWaits", spec := "rateWaits", apart := false, narrowed := true }
def RateWaitsUptoSaid : Prop := rateWaitsUptoRow.holds Try.pinned (OpenSpec.upto rateWaitsSpec)

/-- 'roundelaylaw15.RateBack', WHERE WHAT IT READS IS OF BULK AT MOST 1048576: true; the input reads as it did. -/
def rateBackUptoRow : OpenClaim := { program := "ytgmeopkkdlajnaa", sum := "26a6f8d8f813bc50061d3018256c30b231212a12f72b81450eb6fbe732f1ecba", func := "roundelay/roundelaylaw15.RateBack", spec := "rateBack", apart := false, narrowed := true }
def RateBackUptoSaid : Prop := rateBackUptoRow.holds Try.pinned (OpenSpec.upto rateBackSpec)

/-- 'roundelaylaw15.RateSplit', WHERE WHAT IT READS IS OF BULK AT MOST 1048576: true; the input reads as it did. -/
def rateSplitUptoRow : OpenClaim := { program := "ytgmeopkkdlajnaa", sum := "26a6f8d8f813bc50061d3018256c30b231212a12f72b81450eb6fbe732f1ecba", func := "roundelay/roundelaylaw15.RateSplit", spec := "rateSplit", apart := false, narrowed := true }
def RateSplitUptoSaid : Prop := rateSplitUptoRow.holds Try.pinned (OpenSpec.upto rateSplitSpec)

/-- 'roundelaylaw15.RateNone', WHERE WHAT IT READS IS OF BULK AT MOST 1048576: true; the input reads as it did. -/
def rateNoneUptoRow : OpenClaim := { program := "ytgmeopkkdlajnaa", sum := "26a6f8d8f813bc50061d3018256c30b231212a12f72b81450eb6fbe732f1ecba", func := "roundelay/roundelaylaw15.RateNone", spec := "rateNone", apart := false, narrowed := true }
def RateNoneUptoSaid : Prop := rateNoneUptoRow.holds Try.pinned (OpenSpec.upto rateNoneSpec)

end Rows
end Go.Proofs.Ytgmeopkkdlajnaa
