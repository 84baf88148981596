/- Texts that are cut at dots: plain laws. -/
import Derived.Lib.SplitLaws
import Derived.Lib.IndexBytes
namespace Go.Proofs.YtlomieopppndeaaGreatDoor

/-- What is cut off, one byte after another. -/
def cutB (p : ByteArray) : List UInt8 → List ByteArray
  | [] => [p]
  | b :: r => if b = 46 then p :: cutB ⟨#[]⟩ r else cutB (p ++ ⟨#[b]⟩) r
def cutL (p : List UInt8) : List UInt8 → List (List UInt8)
  | [] => [p]
  | b :: r => if b = 46 then p :: cutL [] r else cutL (p ++ [b]) r
def headApp (p : List UInt8) : List (List UInt8) → List (List UInt8)
  | [] => []
  | h :: t => (p ++ h) :: t
theorem cutL_app : ∀ (l p : List UInt8), cutL p l = headApp p (cutL [] l)
  | [], p => by simp [cutL, headApp]
  | b :: r, p => by
    unfold cutL
    by_cases h : b = 46
    · simp [h, headApp]
    · rw [if_neg h, if_neg h, cutL_app r (p ++ [b]), cutL_app r ([] ++ [b])]
      cases cutL [] r <;> simp [headApp]
theorem cutB_data : ∀ (l : List UInt8) (p : ByteArray), (cutB p l).map (·.data.toList) = cutL p.data.toList l
  | [], p => rfl
  | b :: r, p => by
    unfold cutB cutL
    by_cases h : b = 46
    · rw [if_pos h, if_pos h, List.map_cons, cutB_data r]
    · rw [if_neg h, if_neg h, cutB_data r]
      simp
theorem index_cons (b : UInt8) (r : List UInt8) : Lib.index (b :: r) [46] = if b = 46 then 0 else if Lib.index r [46] = -1 then -1 else Lib.index r [46] + 1 := by
  rw [Lib.index_one, Lib.index_one]
  rw [Lib.indexByte]
  by_cases h : b = 46 <;> simp [h]
theorem split_miss (l : List UInt8) (h : Lib.index l [46] = -1) : Lib.split l [46] = [l] := by
  unfold Lib.split
  rw [Lib.count_miss h]; rfl
theorem split_hit (l : List UInt8) (i : Nat) (h : Lib.index l [46] = (i : Int)) : Lib.split l [46] = l.take i :: Lib.split (l.drop (i + 1)) [46] := by
  unfold Lib.split
  rw [Lib.count_hit (by simp) h, Nat.add_comm 1, Lib.splitK]
  have hm : ¬ (Lib.index l [46] == -1) = true := fun e => by have := beq_iff_eq.1 e; omega
  have e : (Lib.index l [46]).toNat = i := by omega
  rw [if_neg hm, e]
  rfl
theorem split_cut : ∀ (l : List UInt8), Lib.split l [46] = cutL [] l
  | [] => by rw [split_miss [] rfl]; rfl
  | b :: r => by
    have ih := split_cut r
    unfold cutL
    have hi := index_cons b r
    by_cases h : b = 46
    · subst h
      rw [if_pos rfl] at hi
      rw [if_pos rfl, split_hit _ 0 hi, ← ih]
      rfl
    · rw [if_neg h] at hi
      rw [if_neg h, cutL_app, ← ih]
      by_cases hm : Lib.index r [46] = -1
      · rw [if_pos hm] at hi
        rw [split_miss _ hi, split_miss _ hm]
        rfl
      · rw [if_neg hm] at hi
        obtain ⟨i, hi'⟩ : ∃ i : Nat, Lib.index r [46] = (i : Int) := ⟨(Lib.index r [46]).toNat, by have := Lib.index_ge r [46]; omega⟩
        rw [split_hit r i hi', split_hit (b :: r) (i + 1) (by omega)]
        rfl
theorem data_inj {a b : ByteArray} (h : a.data.toList = b.data.toList) : a = b := by
  cases a; cases b
  simpa [Array.toList_inj] using h
theorem map_data_inj : ∀ {l m : List ByteArray}, l.map (·.data.toList) = m.map (·.data.toList) → l = m
  | [], [], _ => rfl
  | [], _ :: _, h => by simp at h
  | _ :: _, [], h => by simp at h
  | a :: l, b :: m, h => by
    simp only [List.map_cons, List.cons.injEq] at h
    rw [data_inj h.1, map_data_inj h.2]
/-- A text's parts are what is cut off. -/
theorem splitB_cut (s : ByteArray) : Lib.splitB ⟨#[46]⟩ 0 (Lib.countB s ⟨#[46]⟩) s = cutB ⟨#[]⟩ s.data.toList := by
  apply map_data_inj
  rw [Lib.splitB_data, cutB_data]
  exact split_cut s.data.toList
end Go.Proofs.YtlomieopppndeaaGreatDoor
