/- roundelaylaw06's examples. -/
import Derived.Test.YtlomieopppndeaaDoorPathFind
import Derived.Test.YtlomieopppndeaaDoorPathParse
namespace Go.Proofs.YtlomieopppndeaaDoor
open Go.RowKit

theorem ex1 : pathOk ⟨#[97, 46, 49]⟩ = true ∧ partsOf ⟨#[97, 46, 49]⟩ = [⟨#[97]⟩, ⟨#[49]⟩] := by decide +kernel
theorem ex2 : pathOk ⟨#[97, 46, 46, 98]⟩ = false := by decide +kernel
def exL : Val := .mk 4 0 ⟨#[]⟩ [.mk 2 5 ⟨#[]⟩ [] [], .mk 2 6 ⟨#[]⟩ [] []] []
def exV : Val := .mk 5 0 ⟨#[]⟩ [] [(⟨#[97]⟩, exL)]
def ex6 : Val := .mk 2 6 ⟨#[]⟩ [] []
theorem ex3 : exV.find [⟨#[97]⟩, ⟨#[49]⟩] = some ex6 := by rfl
theorem ex_few : Few 4 exV := by
  refine Few.of_good (d := 3) ?_
  simp [GoodV, exV, exL, Val.kind, Val.int, Val.text, Val.list, Val.fields, inI64, wordsOf, namesOf]

/-- A row that fills a block. -/
theorem Row.of_block {α : Type} {K : Knd α} {w : World} {ok : Nat → Prop} {g : Nat} {t : TypeId} {cells : Array Value} (css : List (List Value)) (xs : List α) (h : w.heap[g]? = some (.cells cells t (0, 0))) (hcs : cells.toList = css.flatten) (hok : ok g) (hm : xs.length ≤ maxLen)
    (hl : css.length = xs.length) (hall : ∀ (i : Nat) (x : α), xs[i]? = some x → ∃ cs, css[i]? = some cs ∧ K.R w ok x cs) : Row K w ok (some ⟨g, 0, none⟩) xs.length xs.length xs := by
  refine .inr ⟨g, 0, rfl, rfl, Nat.le_refl _, hm, hok, blk_lt h, fun i x hx => ?_⟩
  obtain ⟨cs, a, b⟩ := hall i x hx
  refine ⟨cs, b, fun j u hj => ?_⟩
  have hcl : ∀ cs ∈ css, cs.length = K.sz := by
    intro cs hcs
    obtain ⟨i', hi', he⟩ := List.getElem_of_mem hcs
    have hx' : xs[i']? = some (xs[i']'(by omega)) := List.getElem?_eq_getElem (by omega)
    obtain ⟨cs', a', b'⟩ := hall i' _ hx'
    have : css[i']? = some cs := by rw [List.getElem?_eq_getElem hi', he]
    rw [this] at a'
    injection a' with a'
    subst a'
    exact K.len b'
  have := flat_at css K.sz hcl i cs a j u hj
  rw [blk_cells h, Nat.zero_add, ← Array.getElem?_toList, hcs]
  exact this
theorem StrsAt.row {w : World} {ok : Nat → Prop} {g : Nat} {l : List ByteArray} (h : StrsAt w g l) (hok : ok g) (hs : ∀ p ∈ l, p.size ≤ 281474976710656) (hm : l.length ≤ maxLen) : Row KStr w ok (some ⟨g, 0, none⟩) l.length l.length l :=
  Row.of_block (K := KStr) (l.map fun s => [.string s]) l h.1 (by
    clear h hs hm
    show l.map Value.string = _
    induction l with
    | nil => rfl
    | cons a r ih => rw [List.map_cons, ih]; rfl) hok hm (by simp) (fun i x hx => Exists.intro [.string x] (And.intro (by simp [hx]) (And.intro rfl (hs x (List.mem_of_getElem? hx)))))

theorem exV_R {w : World} {ok : Nat → Prop} {a b : Nat} (ha : w.heap[a]? = some (.cells #[.int .i64 2, .int .i64 5, .string ⟨#[]⟩, .slice none 0 0, .slice none 0 0, .int .i64 2, .int .i64 6, .string ⟨#[]⟩, .slice none 0 0, .slice none 0 0] 29 (0, 0)))
    (hb : w.heap[b]? = some (.cells #[.string ⟨#[97]⟩, .int .i64 4, .int .i64 0, .string ⟨#[]⟩, .slice (some ⟨a, 0, none⟩) 2 2, .slice none 0 0] 69 (0, 0))) (oa : ok a) (ob : ok b) :
    (KV 3).R w ok exV [.int .i64 exV.kind, .int .i64 exV.int, .string exV.text, .slice none 0 0, .slice (some ⟨b, 0, none⟩) 1 1] := by
  refine ⟨none, 0, 0, some ⟨b, 0, none⟩, 1, 1, rfl, i64_5, i64_0, empty_small, Row.nil _ _ _, ?_⟩
  refine Row.of_block (K := KFld (KV 2)) [[.string ⟨#[97]⟩, .int .i64 4, .int .i64 0, .string ⟨#[]⟩, .slice (some ⟨a, 0, none⟩) 2 2, .slice none 0 0]] ([(⟨#[97]⟩, exL)] : List Fld) hb rfl ob (by decide) rfl (fun i x hx => ?_)
  obtain rfl : i = 0 := by
    rcases Nat.eq_zero_or_pos i with h | h
    · exact h
    · rw [List.getElem?_eq_none (by simp; omega)] at hx; cases hx
  simp at hx
  subst hx
  refine ⟨_, rfl, _, rfl, by decide, some ⟨a, 0, none⟩, 2, 2, none, 0, 0, rfl, i64_4, i64_0, empty_small, ?_, Row.nil _ _ _⟩
  refine Row.of_block (K := KV 1) [[.int .i64 2, .int .i64 5, .string ⟨#[]⟩, .slice none 0 0, .slice none 0 0], [.int .i64 2, .int .i64 6, .string ⟨#[]⟩, .slice none 0 0, .slice none 0 0]] [.mk 2 5 ⟨#[]⟩ [] [], .mk 2 6 ⟨#[]⟩ [] []] ha rfl oa (by decide) rfl (fun i x hx => ?_)
  rcases i with _ | _ | i
  · simp at hx
    subst hx
    exact ⟨_, rfl, flat_R 0 w ok 2 5 _ (inI64_small (by decide) (by decide)) (inI64_small (by decide) (by decide)) empty_small⟩
  · simp at hx
    subst hx
    exact ⟨_, rfl, flat_R 0 w ok 2 6 _ (inI64_small (by decide) (by decide)) (inI64_small (by decide) (by decide)) empty_small⟩
  · simp at hx

/-- What the walks on paths read of the program's own variables. -/
structure PathG (w : World) : Prop where
  par : ParG w
  fin : FinG w
  err : ErrG w
theorem PathG.et {w : World} (h : PathG w) : w.cell? ⟨1, 0, none⟩ = some (.iface 131 (.agg #[.pointer (some ⟨14, 52, none⟩)])) := h.err.et
theorem PathG.below {w w' : World} (h : PathG w) (hb : Below w.heap.size w w') : PathG w' := ⟨h.par.below hb, h.fin.below hb, h.err.below hb⟩
/-- path.Parse, with what it reads of the program's own variables. -/
theorem parse_callsP (s : ByteArray) (w : World) (hs : s.size < 4294967281) (G : ParG w) : Calls Tryd.prog 16 #[.string s] w (ParseP s w) := by
  obtain ⟨m, hm⟩ := G.ml
  exact parse_calls s m w hs hm (fun w' hb => (G.below hb).ut)
theorem parse_calls' (s : ByteArray) (w : World) (hs : s.size < 4294967281) (G : PathG w) : Calls Tryd.prog 16 #[.string s] w (ParseP s w) := parse_callsP s w hs G.par

set_option maxRecDepth 100000 in
set_option maxHeartbeats 2000000 in
theorem awake_calls (w : World) (G : PathG w) : Calls Tryd.prog 15 #[] w fun e w' => e = .returned (.bool true) ∧ Below w.heap.size w w' := by
  have GG := Ap.of G
  clear G
  go_enter Tryd.func15, Tryd.ntmps15
  go_wp2_with fail
  have hb4 := bel_step (bel_step (bel_step (bel_alloc w (.cells #[.int .i64 2, .int .i64 5, .string ⟨#[]⟩, .slice none 0 0, .slice none 0 0, .int .i64 2, .int .i64 6, .string ⟨#[]⟩, .slice none 0 0, .slice none 0 0] 29)) (bel_alloc _ (.cells #[.int .i64 4, .int .i64 0, .string ⟨#[]⟩, .slice (some ⟨w.heap.size, 0, none⟩) 2 2, .slice none 0 0] 29)))
    (bel_alloc _ (.cells #[.string ⟨#[97]⟩, .int .i64 4, .int .i64 0, .string ⟨#[]⟩, .slice (some ⟨w.heap.size, 0, none⟩) 2 2, .slice none 0 0] 69))) (bel_alloc _ (.cells #[.int .i64 5, .int .i64 0, .string ⟨#[]⟩, .slice none 0 0, .slice (some ⟨w.heap.size + 1 + 1, 0, none⟩) 1 1] 29))
  refine (parse_calls' ⟨#[97, 46, 49]⟩ _ (by decide) (GG.out.below hb4)).mono ?_
  rintro e w1 (⟨_, g, rfl, hg, hst, hb⟩ | ⟨hno, _⟩)
  case inr => rw [ex1.1] at hno; cases hno
  have b0 := blk_bel (blk_old (blk_old (blk_old (blk_new (w := w) rfl)))) hb
  have b2 := blk_bel (blk_old (blk_new (k := w.heap.size + 1 + 1) (by simp))) hb
  have b3 := blk_bel (blk_new (k := w.heap.size + 1 + 1 + 1) (by simp)) hb
  rw [ex1.2] at hst ⊢
  have hR := exV_R (ok := fun _ => True) b0 b2 trivial trivial
  have hrow := hst.row (ok := fun _ => True) trivial (by decide) (by decide)
  have hfind := find_calls 1 exV none 0 0 (some ⟨w.heap.size + 1 + 1, 0, none⟩) 1 1 (some ⟨g, 0, none⟩) 2 2 _ (fun _ => True) w1 (PathG.below (GG.out.below hb4) hb).fin ex_few hrow hR
  rw [ex3] at hfind
  have HF := Ap.of hfind
  have HB := Ap.of (bel_step hb4 hb)
  have c3 := blk_cells b3
  have G1 := Ap.of (PathG.below (GG.out.below hb4) hb)
  have sz : w.heap.size + 4 ≤ w1.heap.size := by have := hb.size; simp at this; omega
  clear hfind hb hb4 hR hrow hst b0 b2 b3 hg
  have e2 : ([⟨#[97]⟩, ⟨#[49]⟩] : List ByteArray).length = 2 := rfl
  rw [e2]
  go_wp2_with fail
  refine HF.out.mono ?_
  rintro e w2 ⟨y, la, ln, lc, fa, fn, fc, rfl, hy, hr, hb2⟩
  obtain rfl : y = ex6 := hy
  have HB2 := Ap.of (bel_step HB.out hb2)
  have G2 := Ap.of (G1.out.below hb2)
  clear hr
  have e3 : (some ex6).isSome = true := rfl
  rw [e3]
  go_wp2_with fail
  refine (parse_calls' ⟨#[97, 46, 46, 98]⟩ _ (by decide) (G2.out.below (bel_alloc _ _))).mono ?_
  rintro e w3 (⟨hyes, _⟩ | ⟨_, g2, rfl, he, hb3⟩)
  case inl => rw [ex2] at hyes; cases hyes
  have b5 := blk_bel (blk_new (w := w2) (o := .cells #[.int .i64 ex6.kind, .int .i64 ex6.int, .string ex6.text, .slice la ln lc, .slice fa fn fc] 29) rfl) hb3
  have c5 := blk_cells b5
  have HE := Ap.of he
  have HB3 := Ap.of (bel_step (bel_step HB2.out (bel_alloc _ _)) hb3)
  have G3 := Ap.of ((G2.out.below (bel_alloc _ _)).below hb3)
  clear hb2 hb3 he b5
  have e4 : ex6.int = 6 := rfl
  go_wp2_with fail
  refine (code_calls 1 6 _ w3 HE.out G3.out.et).mono ?_
  rintro e w4 ⟨rfl, hb4⟩
  have HB4 := Ap.of (bel_step HB3.out hb4)
  clear hb4
  go_wp2_with fail
  go_ret
  exact ⟨rfl, HB4.out⟩
end Go.Proofs.YtlomieopppndeaaDoor
