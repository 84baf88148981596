/- What the filters of bytes are like, as values. -/
import Derived.Test.YtlomieopppndeaaDoorGen
namespace Go.Proofs.YtlomieopppndeaaDoor
open Go.RowKit

def testsOf : List ByteArray := [⟨#[36, 101, 113]⟩, ⟨#[36, 101, 120, 105, 115, 116, 115]⟩, ⟨#[36, 103, 116]⟩, ⟨#[36, 103, 116, 101]⟩, ⟨#[36, 105, 110]⟩, ⟨#[36, 108, 116]⟩, ⟨#[36, 108, 116, 101]⟩, ⟨#[36, 110, 101]⟩]
/-- Names that filters of bytes have. -/
def docNames : List ByteArray := [⟨#[36, 97, 110, 100]⟩, ⟨#[36, 111, 114]⟩, ⟨#[97]⟩, ⟨#[97, 46, 98]⟩, ⟨#[98]⟩, ⟨#[99, 46, 48]⟩, ⟨#[110]⟩]
def TstV (t : Fld) : Prop := t.1 ∈ testsOf ∧ GoodV 5 t.2
/-- What stands at a path of a filter. -/
def LeafV (x : Val) : Prop := GoodV 4 x ∨ (x.kind = 5 ∧ x.list = [] ∧ 1 ≤ x.fields.length ∧ x.fields.length ≤ 2 ∧ ∀ t ∈ x.fields, TstV t)
/-- Filters of bytes, as values. -/
def DocV : Nat → Val → Prop
  | 0, _ => False
  | d + 1, x => x.kind = 5 ∧ x.list = [] ∧ x.fields.length ≤ 7 ∧ ∀ f ∈ x.fields, (f.1 ∈ docNames.drop 2 ∧ LeafV f.2) ∨
      (f.1 ∈ docNames.take 2 ∧ f.2.kind = 4 ∧ f.2.fields = [] ∧ f.2.list ≠ [] ∧ f.2.list.length ≤ 3 ∧ ∀ y ∈ f.2.list, DocV d y)
end Go.Proofs.YtlomieopppndeaaDoor
