/- roundelaylaw16.wrong at filters of bytes. -/
import Derived.Test.YtlomieopppndeaaGreatDoorWrongLeaf
import Derived.Test.YtlomieopppndeaaGreatDoorDoc16L
namespace Go.Proofs.YtlomieopppndeaaGreatDoor
open Go.RowKit

theorem join_field {F : Nat} {nm : ByteArray} {y : Val} (h : nm ∈ docNames.take 2) (h4 : y.kind = 4) (hl : y.list ≠ []) : fieldD (F + 1) (nm, y) = manyE (namedI nm) (parseE (fieldD F)) y.list := by
  unfold fieldD
  rw [if_pos (docn_join h), if_neg (by simp [h4, hl])]
theorem two_names {nm : ByteArray} (h : nm ∈ docNames.take 2) : nm = ⟨#[36, 97, 110, 100]⟩ ∨ nm = ⟨#[36, 111, 114]⟩ := by
  simpa [docNames] using h
theorem leaf_tests_true {x : Val} (h5 : x.kind = 5) (n1 : 1 ≤ x.fields.length) (ha : ∀ t ∈ x.fields, TstV t) : isTests x = true := by
  cases hfs : x.fields with
  | nil => rw [hfs] at n1; simp at n1
  | cons t r =>
    have hp := (tstn_op (ha t (by rw [hfs]; exact List.mem_cons_self ..)).1).2
    unfold isTests
    rw [hfs, h5]
    simp [hp]
/-- What is wrong with a filter of bytes is what reading it tells. -/
theorem wrong_doc : ∀ (d F : Nat) (v : Val) (la : Option Addr) (ln lc : Nat) (fa : Option Addr) (fn fc : Nat) (ok : Nat → Prop) (w : World), d ≤ F → DocV d v → TeG w → (KV (2 * d + 5)).R w ok v [.int .i64 v.kind, .int .i64 v.int, .string v.text, .slice la ln lc, .slice fa fn fc] → Calls Tryz.prog 29 #[.agg #[.int .i64 v.kind, .int .i64 v.int, .string v.text, .slice la ln lc, .slice fa fn fc]] w (WrP (parseD F v) w)
  | 0, _, _, _, _, _, _, _, _, _, _, _, h, _, _ => h.elim
  | d + 1, F, v, la, ln, lc, fa, fn, fc, ok, w, hF, hv, G, hR => by
    obtain ⟨F, rfl⟩ : ∃ F', F = F' + 1 := ⟨F - 1, by omega⟩
    obtain ⟨h5, _, _, hf⟩ := hv
    refine wrong_any (2 * d + 5) v la ln lc fa fn fc ok w (fieldD (F + 1)) h5 hR (fun nm y la2 ln2 lc2 fa2 fn2 fc2 W hW hm hy => ?_)
    rcases hf _ hm with ⟨hn, hl⟩ | ⟨hn, h4, _, hne, _, hd⟩
    · rcases hl with hg | ⟨k5, _, n1, _, ha⟩
      · exact leaf_plain (2 * d + 4) F nm y la2 ln2 lc2 fa2 fn2 fc2 ok W hn hg hy
      · have hlen := (KV_parts hy).2.2.2.2.length
        rw [leaf_field hn, if_pos (leaf_tests_true k5 n1 ha)]
        exact leaf_conds (2 * d + 4) nm y la2 ln2 lc2 fa2 fn2 fc2 ok W hn k5 ha (by have h1 : 1 ≤ y.fields.length := n1; omega) hy (G.below hW)
    · rw [join_field hn h4 hne]
      exact one_many (2 * d + 4) nm y la2 ln2 lc2 fa2 fn2 fc2 ok W (parseE (fieldD F)) (namedI nm) (two_names hn) h4 hne hy (fun x la ln lc fa fn fc W2 hW2 hx hxR =>
        wrong_doc d F x la ln lc fa fn fc ok W2 (by omega) (hd x hx) ((G.below hW).below hW2) hxR)
/-- A name with a sign that is no filter's: it can't be read. -/
theorem named_first {nm : ByteArray} (h : namedI nm = 0) : nm = ⟨#[36, 97, 110, 100]⟩ := by
  unfold namedI Lib.idxOfS opsOf at h
  simp only [List.take, Lib.idxFromS] at h
  split at h
  · rename_i e; exact e.symm
  · rename_i e
    exfalso
    have := idxFromS_bounds nm [⟨#[36, 111, 114]⟩, ⟨#[36, 101, 113]⟩, ⟨#[36, 110, 101]⟩, ⟨#[36, 103, 116]⟩, ⟨#[36, 103, 116, 101]⟩, ⟨#[36, 108, 116]⟩, ⟨#[36, 108, 116, 101]⟩, ⟨#[36, 105, 110]⟩, ⟨#[36, 101, 120, 105, 115, 116, 115]⟩] 1
    simp only [Lib.idxFromS] at this
    omega
theorem named_second {nm : ByteArray} (h : namedI nm = 1) : nm = ⟨#[36, 111, 114]⟩ := by
  unfold namedI Lib.idxOfS opsOf at h
  simp only [List.take, Lib.idxFromS] at h
  split at h
  · omega
  · split at h
    · rename_i e; exact e.symm
    · exfalso
      have := idxFromS_bounds nm [⟨#[36, 101, 113]⟩, ⟨#[36, 110, 101]⟩, ⟨#[36, 103, 116]⟩, ⟨#[36, 103, 116, 101]⟩, ⟨#[36, 108, 116]⟩, ⟨#[36, 108, 116, 101]⟩, ⟨#[36, 105, 110]⟩, ⟨#[36, 101, 120, 105, 115, 116, 115]⟩] 2
      simp only [Lib.idxFromS] at this
      omega
/-- The value that is read under such a name. -/
def dollarV (nm : ByteArray) (v : Val) : Val := .mk 5 0 ⟨#[]⟩ [] [(nm, v)]
theorem dollar_parse (F : Nat) (nm : ByteArray) (v : Val) (h0 : nm ≠ ⟨#[36, 97, 110, 100]⟩) (h1 : nm ≠ ⟨#[36, 111, 114]⟩) (hp : pre36 nm = true) : parseD (F + 1) (dollarV nm v) = .error 8 := by
  have hf : fieldD (F + 1) (nm, v) = .error 8 := by
    unfold fieldD
    rw [if_neg (fun h => h.elim (fun h => h0 (named_first h)) (fun h => h1 (named_second h))), if_pos hp]
  unfold parseD parseE
  rw [if_neg (by show ¬ ((5 : Int) ≠ 5); decide)]
  show manyE 0 (fieldD (F + 1)) [(nm, v)] = _
  simp [manyE, mapE, hf]
end Go.Proofs.YtlomieopppndeaaGreatDoor
