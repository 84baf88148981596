/- Values made of bytes: each is a value that lies in memory, and is no greater than it may be. -/
import Derived.Test.YtlomieopppndeaaDoorData
namespace Go.Proofs.YtlomieopppndeaaDoor
open Go.RowKit

def wordsOf : List ByteArray := [⟨#[]⟩, ⟨#[97]⟩, ⟨#[98]⟩, ⟨#[97, 98]⟩, ⟨#[0]⟩, ⟨#[195, 169]⟩, ⟨#[122, 0]⟩, ⟨#[108, 111, 110, 103, 44, 32, 97, 110, 100, 32, 108, 111, 110, 103, 101, 114]⟩]
def namesOf : List ByteArray := [⟨#[97]⟩, ⟨#[98]⟩, ⟨#[99]⟩, ⟨#[110]⟩]

/-- What the values of bytes are like. -/
def GoodV : Nat → Val → Prop
  | 0, _ => False
  | d + 1, x => 0 ≤ x.kind ∧ x.kind ≤ 5 ∧ inI64 x.int ∧ x.text ∈ wordsOf ∧ x.list.length ≤ 3 ∧ (∀ y ∈ x.list, GoodV d y) ∧ (x.fields.map Prod.fst).Sublist namesOf ∧ (∀ p ∈ x.fields, GoodV d p.2) ∧
      (x.kind = 1 ∨ x.kind = 2 ∨ x.int = 0) ∧ (x.kind = 3 ∨ x.text = ⟨#[]⟩) ∧ (x.kind = 4 ∨ x.list = []) ∧ (x.kind = 5 ∨ x.fields = []) ∧ (x.kind = 1 → x.int = 0 ∨ x.int = 1)

set_option maxHeartbeats 400000 in
theorem one_calls (c : Int) (h0 : 0 ≤ c) (h1 : c ≤ 255) (w : World) :
    Calls Tryd.prog 83 #[.int .u8 c] w fun e w' => ∃ n, e = .returned (.int .i64 n) ∧ inI64 n ∧ w' = w := by
  go_enter Tryd.func83, Tryd.ntmps83
  go_wp2
  all_goals go_ret
  all_goals refine ⟨_, rfl, ?_, rfl⟩
  all_goals (unfold inI64; omega)

/-- The tables of the program, as its text lays them. -/
structure Laid (w : World) : Prop where
  words : ∀ (j : Nat) (s : ByteArray), wordsOf[j]? = some s → w.cell? ⟨6, j, none⟩ = some (.string s)
  names : ∀ (j : Nat) (s : ByteArray), namesOf[j]? = some s → w.cell? ⟨7, j, none⟩ = some (.string s)
  lo : 14 ≤ w.heap.size
theorem Laid.only {S : Nat → Prop} {w w' : World} (h : Laid w) (hb : Only S w w') (hs : ∀ k, k < 14 → ¬ S k) : Laid w' :=
  have hc : ∀ g, g < 14 → ∀ j, w'.cell? ⟨g, j, none⟩ = w.cell? ⟨g, j, none⟩ := fun g hg j => World.cell?_of_block (w := w) (hb.block g (by have := h.lo; omega) (hs g hg))
  ⟨fun j s hj => (hc _ (by decide) j).trans (h.words j s hj), fun j s hj => (hc _ (by decide) j).trans (h.names j s hj), Nat.le_trans h.lo hb.size⟩
theorem Laid.below {w w' : World} (h : Laid w) (hb : Below w.heap.size w w') : Laid w' := h.only (Only.of_below hb (fun _ => False)) (fun _ _ hf => hf)

theorem cut1 (g off n cap : Nat) (hn : n + 1 ≤ cap) (hc : cap ≤ 9223372036854775807) : ∃ A' c', (∀ w : World, (Instr.slice 22 (.slice (some ⟨g, off, none⟩) (n + 1) cap) (some (.int .i64 1)) none none).run Tryd.prog w = .ok (.slice A' n c') w) ∧
    ∀ (w : World) (ok : Nat → Prop), Bs w ok (some ⟨g, off, none⟩) (n + 1) cap → Bs w ok A' n c' := by
  have hl : n + 1 ≤ 9223372036854775807 := by omega
  by_cases h1 : cap = 1
  · subst h1
    refine ⟨some ⟨g, off, none⟩, 0, fun w => ?_, fun w ok h => ⟨by omega, by omega, fun h => by simp at h, .inl (by omega)⟩⟩
    obtain rfl : n = 0 := by omega
    simp [Instr.slice, Instr.sliceBounds, go_sem]
  · refine ⟨some ⟨g, off + 1, none⟩, cap - 1, fun w => ?_, fun w ok h => ⟨by omega, by omega, fun h => by simp at h, ?_⟩⟩
    · simp [Instr.slice, Instr.sliceBounds, go_sem]
      rw [if_pos (by omega), if_neg h1]
    · obtain ⟨_, _, _, h | ⟨g', off', e, a, b, f⟩⟩ := h
      · omega
      · injection e with e
        injection e with e1 e2 _
        subst e1 e2
        refine .inr ⟨_, _, rfl, a, b, fun i hi => ?_⟩
        obtain ⟨x, hx⟩ := f (i + 1) (by omega)
        exact ⟨x, by rw [show off + 1 + i = off + (i + 1) by omega]; exact hx⟩

/-- What Made tells: a value, at most so deep, in new memory; the bytes that are left. -/
def MadeP (D : Nat) (w : World) (ok : Nat → Prop) (e : Ending) (w' : World) : Prop :=
  ∃ (x : Val) (la : Option Addr) (ln lc : Nat) (fa : Option Addr) (fn fc : Nat) (A : Option Addr) (n c : Nat),
    e = .returned (.tuple #[.agg #[.int .i64 x.kind, .int .i64 x.int, .string x.text, .slice la ln lc, .slice fa fn fc], .slice A n c]) ∧
    (KV (D + 1)).R w' (fun k => w.heap.size ≤ k) x [.int .i64 x.kind, .int .i64 x.int, .string x.text, .slice la ln lc, .slice fa fn fc] ∧ GoodV (D + 1) x ∧ Bs w' ok A n c ∧ Below w.heap.size w w'
def MadeS (D : Nat) : Prop := ∀ (A : Option Addr) (n c : Nat) (w : World) (ok : Nat → Prop), (∀ k, ok k → k < w.heap.size) → Laid w → Bs w ok A n c → Calls Tryd.prog 70 #[.slice A n c, .int .i64 ((D : Int) + 1)] w (MadeP D w ok)

/-- A value without a list and fields. -/
theorem flat_R (d : Nat) (w : World) (ok : Nat → Prop) (k n : Int) (s : ByteArray) (hk : inI64 k) (hn : inI64 n) (hs : s.size ≤ maxLen) : (KV (d + 1)).R w ok (.mk k n s [] []) [.int .i64 k, .int .i64 n, .string s, .slice none 0 0, .slice none 0 0] :=
  ⟨none, 0, 0, none, 0, 0, rfl, hk, hn, hs, Row.nil _ _ _, Row.nil _ _ _⟩
theorem flat_good (d : Nat) (k n : Int) (s : ByteArray) (h0 : 0 ≤ k) (h1 : k ≤ 3) (hn : inI64 n) (hs : s ∈ wordsOf) (h2 : k = 1 ∨ k = 2 ∨ n = 0) (h3 : k = 3 ∨ s = ⟨#[]⟩) (h4 : k = 1 → n = 0 ∨ n = 1) : GoodV (d + 1) (.mk k n s [] []) :=
  ⟨h0, by show k ≤ 5; omega, hn, hs, by simp [Val.list], fun y h => by simp [Val.list] at h, by simp [Val.fields], fun y h => by simp [Val.fields] at h, h2, h3, .inr rfl, .inr rfl, h4⟩
theorem words_small {s : ByteArray} (h : s ∈ wordsOf) : s.size ≤ 16 := by
  simp only [wordsOf, List.mem_cons, List.not_mem_nil, or_false] at h
  rcases h with rfl | rfl | rfl | rfl | rfl | rfl | rfl | rfl <;> decide
theorem inI64_small {n : Int} (h0 : 0 ≤ n) (h1 : n ≤ 1000) : inI64 n := by unfold inI64; omega
theorem i64_0 : inI64 0 := inI64_small (by decide) (by decide)
theorem i64_4 : inI64 4 := inI64_small (by decide) (by decide)
theorem i64_5 : inI64 5 := inI64_small (by decide) (by decide)
theorem empty_small : (⟨#[]⟩ : ByteArray).size ≤ maxLen := by unfold maxLen; decide
theorem c04 : (0 : Int) ≤ 4 := by decide
theorem c45 : (4 : Int) ≤ 5 := by decide
theorem c05 : (0 : Int) ≤ 5 := by decide
theorem empty_word : (⟨#[]⟩ : ByteArray) ∈ wordsOf := by unfold wordsOf; exact List.mem_cons_self ..

section
variable (D : Nat) (g off n cap : Nat) (c : Int) (ok : Nat → Prop) (w : World)
set_option maxRecDepth 100000 in
set_option maxHeartbeats 1000000 in
theorem made_empty (A : Option Addr) (cp : Nat) :
    Calls Tryd.prog 70 #[.slice A 0 cp, .int .i64 ((D : Int) + 1)] w (MadeP D w ok) := by
  go_enter Tryd.func70, Tryd.ntmps70
  go_wp2
  exact bodyPost_ret (v := .tuple #[.agg #[.int .i64 0, .int .i64 0, .string ⟨#[]⟩, .slice none 0 0, .slice none 0 0], .slice none 0 0]) (by simp [results, Tryd.results70, go_sem]) rfl
    ⟨.zero, none, 0, 0, none, 0, 0, none, 0, 0, rfl, KV_zero _ _ _, flat_good D 0 0 ⟨#[]⟩ (by decide) (by decide) (inI64_small (by decide) (by decide)) empty_word (.inr (.inr rfl)) (.inr rfl) (fun h => by cases h), ⟨by omega, by omega, fun _ => rfl, .inl rfl⟩, bel_alloc _ _⟩

set_option maxRecDepth 100000 in
set_option maxHeartbeats 1000000 in
theorem made_text (h0 : 0 ≤ c) (h1 : c ≤ 255) (hr : c % 6 = 3) (hL : Laid w) (hB : Bs w ok (some ⟨g, off, none⟩) (n + 1) cap) (hg : g < w.heap.size) (hcell : w.cell? ⟨g, off, none⟩ = some (.int .u8 c)) :
    Calls Tryd.prog 70 #[.slice (some ⟨g, off, none⟩) (n + 1) cap, .int .i64 ((D : Int) + 1)] w (MadeP D w ok) := by
  have hn0 : ((n : Int) + 1 == 0) = false := by simp; omega
  have hn1 := hB.1
  have hn2 := hB.2.1
  have e0 : (0 : Int) ≤ c / 6 := by omega
  have e1 : c / 6 ≤ 42 := by omega
  obtain ⟨s, hs⟩ : ∃ s, wordsOf[(c / 6 % 8).toNat]? = some s := ⟨_, List.getElem?_eq_getElem (by have : wordsOf.length = 8 := rfl; omega)⟩
  have hw := hL.words _ s hs
  have hlo : 6 < w.heap.size := Nat.lt_of_lt_of_le (by decide) hL.lo
  have HS := Ap.of (List.mem_of_getElem? hs)
  obtain ⟨A', c', hrun, hB'⟩ := cut1 g off n cap hn1 hn2
  have HB' := Ap.of ((hB' w ok hB).below (bel_alloc w (.cells #[.int .i64 3, .int .i64 0, .string s, .slice none 0 0, .slice none 0 0] 29)))
  clear hs hL hB' hB
  go_enter Tryd.func70, Tryd.ntmps70
  go_wp2
  exact bodyPost_ret (v := .tuple #[.agg #[.int .i64 3, .int .i64 0, .string s, .slice none 0 0, .slice none 0 0], .slice A' n c']) (by simp [results, Tryd.results70, go_sem]) rfl
    ⟨.mk 3 0 s [] [], none, 0, 0, none, 0, 0, A', n, c', rfl, flat_R D _ _ 3 0 s (inI64_small (by decide) (by decide)) (inI64_small (by decide) (by decide)) (by have := words_small HS.out; unfold maxLen; omega),
      flat_good D 3 0 s (by decide) (by decide) (inI64_small (by decide) (by decide)) HS.out (.inr (.inr rfl)) (.inl rfl) (fun h => by cases h), HB'.out, bel_alloc _ _⟩

set_option maxRecDepth 100000 in
set_option maxHeartbeats 1000000 in
theorem made_bool (h0 : 0 ≤ c) (h1 : c ≤ 255) (hr : c % 6 = 1) (hB : Bs w ok (some ⟨g, off, none⟩) (n + 1) cap) (hg : g < w.heap.size) (hcell : w.cell? ⟨g, off, none⟩ = some (.int .u8 c)) :
    Calls Tryd.prog 70 #[.slice (some ⟨g, off, none⟩) (n + 1) cap, .int .i64 ((D : Int) + 1)] w (MadeP D w ok) := by
  have hn0 : ((n : Int) + 1 == 0) = false := by simp; omega
  have hn1 := hB.1
  have hn2 := hB.2.1
  have e0 : (0 : Int) ≤ c / 6 := by omega
  have e1 : c / 6 ≤ 42 := by omega
  obtain ⟨A', c', hrun, hB'⟩ := cut1 g off n cap hn1 hn2
  have HB' := Ap.of ((hB' w ok hB).below (bel_alloc w (.cells #[.int .i64 1, .int .i64 (c / 6 % 2), .string ⟨#[]⟩, .slice none 0 0, .slice none 0 0] 29)))
  clear hB' hB
  go_enter Tryd.func70, Tryd.ntmps70
  go_wp2
  exact bodyPost_ret (v := .tuple #[.agg #[.int .i64 1, .int .i64 (c / 6 % 2), .string ⟨#[]⟩, .slice none 0 0, .slice none 0 0], .slice A' n c']) (by simp [results, Tryd.results70, go_sem]) rfl
    ⟨.mk 1 (c / 6 % 2) ⟨#[]⟩ [] [], none, 0, 0, none, 0, 0, A', n, c', rfl, flat_R D _ _ 1 _ _ (inI64_small (by decide) (by decide)) (inI64_small (by omega) (by omega)) (by unfold maxLen; decide),
      flat_good D 1 _ _ (by decide) (by decide) (inI64_small (by omega) (by omega)) empty_word (.inl rfl) (.inr rfl) (fun _ => by omega), HB'.out, bel_alloc _ _⟩

set_option maxRecDepth 100000 in
set_option maxHeartbeats 1000000 in
theorem made_int (h0 : 0 ≤ c) (h1 : c ≤ 255) (hr : c % 6 = 2) (hB : Bs w ok (some ⟨g, off, none⟩) (n + 1) cap) (hg : g < w.heap.size) (hcell : w.cell? ⟨g, off, none⟩ = some (.int .u8 c)) :
    Calls Tryd.prog 70 #[.slice (some ⟨g, off, none⟩) (n + 1) cap, .int .i64 ((D : Int) + 1)] w (MadeP D w ok) := by
  have hn0 : ((n : Int) + 1 == 0) = false := by simp; omega
  have hn1 := hB.1
  have hn2 := hB.2.1
  have e0 : (0 : Int) ≤ c / 6 := by omega
  have e1 : c / 6 ≤ 42 := by omega
  obtain ⟨A', c', hrun, hB'⟩ := cut1 g off n cap hn1 hn2
  have HB' := Ap.of (hB' w ok hB)
  clear hB' hB
  go_enter Tryd.func70, Tryd.ntmps70
  go_wp2_with fail
  refine (one_calls (c / 6) e0 (by omega) _).mono ?_
  rintro e w1 ⟨m, rfl, hm, rfl⟩
  have HM := Ap.of hm
  clear hm
  go_wp2_with fail
  exact bodyPost_ret (v := .tuple #[.agg #[.int .i64 2, .int .i64 m, .string ⟨#[]⟩, .slice none 0 0, .slice none 0 0], .slice A' n c']) (by simp [results, Tryd.results70, go_sem]) rfl
    ⟨.mk 2 m ⟨#[]⟩ [] [], none, 0, 0, none, 0, 0, A', n, c', rfl, flat_R D _ _ 2 _ _ (inI64_small (by decide) (by decide)) HM.out (by unfold maxLen; decide),
      flat_good D 2 _ _ (by decide) (by decide) HM.out empty_word (.inr (.inl rfl)) (.inr rfl) (fun h => by cases h), HB'.out.below (bel_alloc _ _), bel_alloc _ _⟩

set_option maxRecDepth 100000 in
set_option maxHeartbeats 1000000 in
theorem made_null (h0 : 0 ≤ c) (h1 : c ≤ 255) (hr : c % 6 = 0 ∨ D = 0 ∧ (c % 6 = 4 ∨ c % 6 = 5)) (hB : Bs w ok (some ⟨g, off, none⟩) (n + 1) cap) (hg : g < w.heap.size) (hcell : w.cell? ⟨g, off, none⟩ = some (.int .u8 c)) :
    Calls Tryd.prog 70 #[.slice (some ⟨g, off, none⟩) (n + 1) cap, .int .i64 ((D : Int) + 1)] w (MadeP D w ok) := by
  have hn0 : ((n : Int) + 1 == 0) = false := by simp; omega
  have hn1 := hB.1
  have hn2 := hB.2.1
  have e0 : (0 : Int) ≤ c / 6 := by omega
  have e1 : c / 6 ≤ 42 := by omega
  obtain ⟨A', c', hrun, hB'⟩ := cut1 g off n cap hn1 hn2
  have HB' := Ap.of (hB' w ok hB)
  clear hB' hB
  rcases hr with hr | ⟨rfl, hr | hr⟩
  all_goals
    go_enter Tryd.func70, Tryd.ntmps70
    go_wp2
    exact bodyPost_ret (v := .tuple #[.agg #[.int .i64 0, .int .i64 0, .string ⟨#[]⟩, .slice none 0 0, .slice none 0 0], .slice A' n c']) (by simp [results, Tryd.results70, go_sem]) rfl
      ⟨.zero, none, 0, 0, none, 0, 0, A', n, c', rfl, KV_zero _ _ _, flat_good _ 0 0 ⟨#[]⟩ (by decide) (by decide) (inI64_small (by decide) (by decide)) empty_word (.inr (.inr rfl)) (.inr rfl) (fun h => by cases h), HB'.out.below (bel_alloc _ _), bel_alloc _ _⟩
end
end Go.Proofs.YtlomieopppndeaaDoor
