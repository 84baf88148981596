/- What values of bytes are like: the words, the names. -/
import Derived.Test.YtecfaaeaipjlaaaGreatDoorData
namespace Go.Proofs.YtecfaaeaipjlaaaGreatDoor
open Go.RowKit
def wordsOf : List ByteArray := [⟨#[]⟩, ⟨#[97]⟩, ⟨#[98]⟩, ⟨#[97, 98]⟩, ⟨#[0]⟩, ⟨#[195, 169]⟩, ⟨#[122, 0]⟩, ⟨#[108, 111, 110, 103, 44, 32, 97, 110, 100, 32, 108, 111, 110, 103, 101, 114]⟩]
def namesOf : List ByteArray := [⟨#[97]⟩, ⟨#[98]⟩, ⟨#[99]⟩, ⟨#[110]⟩]

/-- What the values of bytes are like. -/
def GoodV : Nat → Val → Prop
  | 0, _ => False
  | d + 1, x => 0 ≤ x.kind ∧ x.kind ≤ 5 ∧ inI64 x.int ∧ x.text ∈ wordsOf ∧ x.list.length ≤ 3 ∧ (∀ y ∈ x.list, GoodV d y) ∧ (x.fields.map Prod.fst).Sublist namesOf ∧ (∀ p ∈ x.fields, GoodV d p.2) ∧
      (x.kind = 1 ∨ x.kind = 2 ∨ x.int = 0) ∧ (x.kind = 3 ∨ x.text = ⟨#[]⟩) ∧ (x.kind = 4 ∨ x.list = []) ∧ (x.kind = 5 ∨ x.fields = []) ∧ (x.kind = 1 → x.int = 0 ∨ x.int = 1)

set_option maxHeartbeats 400000 in
/-- A value without a list and fields. -/
theorem flat_R (d : Nat) (w : World) (ok : Nat → Prop) (k n : Int) (s : ByteArray) (hk : inI64 k) (hn : inI64 n) (hs : s.size ≤ maxLen) : (KV (d + 1)).R w ok (.mk k n s [] []) [.int .i64 k, .int .i64 n, .string s, .slice none 0 0, .slice none 0 0] :=
  ⟨none, 0, 0, none, 0, 0, rfl, hk, hn, hs, Row.nil _ _ _, Row.nil _ _ _⟩
theorem flat_good (d : Nat) (k n : Int) (s : ByteArray) (h0 : 0 ≤ k) (h1 : k ≤ 3) (hn : inI64 n) (hs : s ∈ wordsOf) (h2 : k = 1 ∨ k = 2 ∨ n = 0) (h3 : k = 3 ∨ s = ⟨#[]⟩) (h4 : k = 1 → n = 0 ∨ n = 1) : GoodV (d + 1) (.mk k n s [] []) :=
  ⟨h0, by show k ≤ 5; omega, hn, hs, by simp [Val.list], fun y h => by simp [Val.list] at h, by simp [Val.fields], fun y h => by simp [Val.fields] at h, h2, h3, .inr rfl, .inr rfl, h4⟩
theorem words_small {s : ByteArray} (h : s ∈ wordsOf) : s.size ≤ 16 := by
  simp only [wordsOf, List.mem_cons, List.not_mem_nil, or_false] at h
  rcases h with rfl | rfl | rfl | rfl | rfl | rfl | rfl | rfl <;> decide
theorem inI64_small {n : Int} (h0 : 0 ≤ n) (h1 : n ≤ 1000) : inI64 n := by unfold inI64; omega
theorem i64_0 : inI64 0 := inI64_small (by decide) (by decide)
theorem i64_4 : inI64 4 := inI64_small (by decide) (by decide)
theorem i64_5 : inI64 5 := inI64_small (by decide) (by decide)
theorem empty_small : (⟨#[]⟩ : ByteArray).size ≤ maxLen := by unfold maxLen; decide
theorem c04 : (0 : Int) ≤ 4 := by decide
theorem c45 : (4 : Int) ≤ 5 := by decide
theorem c05 : (0 : Int) ≤ 5 := by decide
theorem empty_word : (⟨#[]⟩ : ByteArray) ∈ wordsOf := by unfold wordsOf; exact List.mem_cons_self ..
end Go.Proofs.YtecfaaeaipjlaaaGreatDoor
