/- Bytes that are no UTF-8, mended: plain laws. -/
import Derived.Lib.MapLaws
import Derived.Lib.ValidLaws
import Derived.Lib.TrimUEq
import Derived.Laws.Cover4
import Derived.Laws.RangeAny
namespace Go.Proofs.YtlomieopppndeaaDoor
open Go.Lib

/-- A text whose bytes that are no UTF-8 are the character 65533. -/
def mendL (l : List UInt8) : List UInt8 := mapD (fun r => r) l
theorem mendL_step (l : List UInt8) (hne : l ≠ []) : mendL l = encodeRune ((decodeL l).1 : Int) ++ mendL (l.drop (decodeL l).2) := by
  unfold mendL
  rw [mapD_step _ l hne, if_pos (by omega)]
theorem bad_len : (encodeRune ((65533 : Nat) : Int)).length = 3 := by decide
theorem mendL_valid : ∀ (n : Nat) (l : List UInt8), l.length ≤ n → (validD l = true → mendL l = l) ∧ (validD l = false → l.length < (mendL l).length) ∧ l.length ≤ (mendL l).length
  | 0, l, h => by
    obtain rfl : l = [] := List.eq_nil_of_length_eq_zero (by omega)
    exact ⟨fun _ => rfl, fun h => absurd h (by rw [validD_nil]; decide), Nat.le_refl _⟩
  | n + 1, l, h => by
    by_cases hne : l = []
    · subst hne
      exact ⟨fun _ => rfl, fun h => absurd h (by rw [validD_nil]; decide), Nat.le_refl _⟩
    · have hw := decodeL_width l
      have hl : 0 < l.length := List.length_pos_iff.2 hne
      have hle := decodeL_le l hne
      obtain ⟨i1, i2, i3⟩ := mendL_valid n (l.drop (decodeL l).2) (by rw [List.length_drop]; omega)
      rw [List.length_drop] at i2 i3
      rw [mendL_step l hne, validD_step l hne, List.length_append]
      by_cases hb : (decodeL l).1 = 65533 ∧ (decodeL l).2 = 1
      · rw [if_pos hb]
        have h3 : (encodeRune ((decodeL l).1 : Int)).length = 3 := by rw [hb.1]; exact bad_len
        rw [h3]
        exact ⟨fun h => absurd h (by decide), fun _ => by omega, by omega⟩
      · rw [if_neg hb]
        have he := encode_decode l hne hb
        have hel : (encodeRune ((decodeL l).1 : Int)).length = (decodeL l).2 := by rw [he, List.length_take]; omega
        rw [hel]
        refine ⟨fun hv => ?_, fun hv => ?_, by omega⟩
        · rw [i1 hv, he, List.take_append_drop]
        · have := i2 hv; omega
theorem mendL_iff (l : List UInt8) : mendL l = l ↔ validD l = true := by
  obtain ⟨h1, h2, _⟩ := mendL_valid l.length l (Nat.le_refl _)
  refine ⟨fun h => ?_, h1⟩
  cases hv : validD l with
  | true => rfl
  | false => have := h2 hv; rw [h] at this; omega
theorem byte_eq (z : Int) (k : Nat) (h : z = k) : z.toNat.toUInt8 = UInt8.ofNat k := by subst h; rfl
theorem encode_of (r : Int) (n : Nat) (h : (if Utf8.valid r then r.toNat else Utf8.runeError) = n) : (Utf8.encode r).data.toList = if n < 128 then [UInt8.ofNat n] else if n < 2048 then [UInt8.ofNat (192 + n / 64), UInt8.ofNat (128 + n % 64)]
    else if n < 65536 then [UInt8.ofNat (224 + n / 4096), UInt8.ofNat (128 + n / 64 % 64), UInt8.ofNat (128 + n % 64)] else [UInt8.ofNat (240 + n / 262144), UInt8.ofNat (128 + n / 4096 % 64), UInt8.ofNat (128 + n / 64 % 64), UInt8.ofNat (128 + n % 64)] := by
  unfold Utf8.encode
  rw [h]
  dsimp only
  split
  · rfl
  · split
    · rfl
    · split <;> rfl
theorem valid_iff (n : Nat) : Utf8.valid (n : Int) = true ↔ n < 55296 ∨ (57344 ≤ n ∧ n ≤ 1114111) := by
  unfold Utf8.valid
  rw [Bool.or_eq_true, Bool.and_eq_true, Bool.and_eq_true, decide_eq_true_eq, decide_eq_true_eq, decide_eq_true_eq, decide_eq_true_eq]
  omega
theorem encode_eq (n : Nat) : (Utf8.encode (n : Int)).data.toList = encodeRune (n : Int) := by
  unfold encodeRune
  by_cases hv : Utf8.valid (n : Int) = true
  · rw [encode_of _ n (by rw [if_pos hv]; simp)]
    rw [valid_iff] at hv
    by_cases h1 : n < 128
    · rw [if_pos h1, encodeRuneZ_one (by omega) (by omega)]
      simp only [List.map_cons, List.map_nil, byte_eq (n : Int) n rfl]
    · by_cases h2 : n < 2048
      · rw [if_neg h1, if_pos h2, encodeRuneZ_two (by omega) (by omega)]
        simp only [List.map_cons, List.map_nil, byte_eq (192 + (n : Int) / 64) (192 + n / 64) (by omega), byte_eq (128 + (n : Int) % 64) (128 + n % 64) (by omega)]
      · by_cases h3 : n < 65536
        · rw [if_neg h1, if_neg h2, if_pos h3, encodeRuneZ_three (by omega)]
          simp only [List.map_cons, List.map_nil, byte_eq (224 + (n : Int) / 4096) (224 + n / 4096) (by omega), byte_eq (128 + (n : Int) / 64 % 64) (128 + n / 64 % 64) (by omega), byte_eq (128 + (n : Int) % 64) (128 + n % 64) (by omega)]
        · rw [if_neg h1, if_neg h2, if_neg h3, encodeRuneZ_four (by omega) (by omega)]
          simp only [List.map_cons, List.map_nil, byte_eq (240 + (n : Int) / 262144) (240 + n / 262144) (by omega), byte_eq (128 + (n : Int) / 4096 % 64) (128 + n / 4096 % 64) (by omega), byte_eq (128 + (n : Int) / 64 % 64) (128 + n / 64 % 64) (by omega), byte_eq (128 + (n : Int) % 64) (128 + n % 64) (by omega)]
  · rw [encode_of _ 65533 (by rw [if_neg hv]; rfl)]
    rw [valid_iff] at hv
    rw [encodeRuneZ_bad (by omega)]
    decide
/-- The next character of a text that is ranged over, wherever the iterator lies. -/
def setIter (w : World) (k : Nat) (s : ByteArray) (pos : Nat) : World := { w with heap := w.heap.setIfInBounds k (.stringIter s pos) }
theorem next_any {P : Program} (w : World) (k : Nat) (s : ByteArray) (pos : Nat) (ty : TypeId) (hk : w.heap[k]? = some (.stringIter s pos)) (h : pos < s.size) :
    (Instr.next (.pointer (some ⟨k, 0, none⟩)) true ty).run P w = .ok (.tuple #[.bool true, .int .i64 pos, .int .i32 (Utf8.decode s pos).1]) (setIter w k s (pos + (Utf8.decode s pos).2)) := by
  simp only [Instr.next, getObj, setObj, Sem.run_bind, Sem.run, hk, Result.andThen, h, if_true, setIter]
  simp [goInt]
theorem next_end {P : Program} (w : World) (k : Nat) (s : ByteArray) (pos : Nat) (ty : TypeId) (hk : w.heap[k]? = some (.stringIter s pos)) (h : ¬ pos < s.size) :
    (Instr.next (.pointer (some ⟨k, 0, none⟩)) true ty).run P w = .ok (.tuple #[.bool false]) w := by
  simp [Instr.next, getObj, Sem.run, hk, h]
theorem iter_at {w : World} {k : Nat} {s : ByteArray} {pos : Nat} (h : w.heap[k]? = some (.stringIter s pos)) (p : Nat) : (setIter w k s p).heap[k]? = some (.stringIter s p) := by
  have hk : k < w.heap.size := (Array.getElem?_eq_some_iff.1 h).1
  simp [setIter, hk]
end Go.Proofs.YtlomieopppndeaaDoor
