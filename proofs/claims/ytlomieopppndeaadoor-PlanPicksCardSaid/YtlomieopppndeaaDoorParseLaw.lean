/- Filters out of values: what filter.Parse tells: plain definitions, and the first walks. -/
import Derived.Test.YtlomieopppndeaaDoorFltKnd
import Derived.Test.YtlomieopppndeaaDoorFaultCode
import Derived.Laws.EntriesVeiled
namespace Go.Proofs.YtlomieopppndeaaDoor
open Go.RowKit

theorem Tryd.infoFl : (Tryd.prog.info? 32).map (fun i => (i.zero, i.size, i.bytes)) = some (some (.agg #[.int .i64 0, .string ⟨#[]⟩, .int .i64 0, .int .i64 0, .string ⟨#[]⟩, .slice none 0 0, .slice none 0 0, .slice none 0 0]), 8, 128) := by kernel_rfl

def opsOf : List ByteArray := [⟨#[36, 97, 110, 100]⟩, ⟨#[36, 111, 114]⟩, ⟨#[36, 101, 113]⟩, ⟨#[36, 110, 101]⟩, ⟨#[36, 103, 116]⟩, ⟨#[36, 103, 116, 101]⟩, ⟨#[36, 108, 116]⟩, ⟨#[36, 108, 116, 101]⟩, ⟨#[36, 105, 110]⟩, ⟨#[36, 101, 120, 105, 115, 116, 115]⟩]
def namedI (nm : ByteArray) : Int := Lib.idxOfS (opsOf.take 10) nm
def pre36 (nm : ByteArray) : Bool := Lib.hasPrefix nm.data.toList (⟨#[36]⟩ : ByteArray).data.toList
def Flt.zero : Flt := .mk 0 ⟨#[]⟩ Val.zero []
def isTests (x : Val) : Bool := match x.fields with
  | [] => false
  | f :: _ => (x.kind == 5) && pre36 f.1
def testF (path : ByteArray) (fl : Fld) : Except Int Flt :=
  if namedI fl.1 < 2 then .error 8 else if (namedI fl.1 = 8 ∧ fl.2.kind ≠ 4) ∨ (namedI fl.1 = 9 ∧ fl.2.kind ≠ 1) then .error 7 else .ok (.mk (namedI fl.1) path fl.2 [])
def mapE {α : Type} (one : α → Except Int Flt) : List α → Except Int (List Flt)
  | [] => .ok []
  | x :: r => match one x with
    | .error e => .error e
    | .ok s => match mapE one r with
      | .error e => .error e
      | .ok ss => .ok (s :: ss)
def manyE {α : Type} (op : Int) (one : α → Except Int Flt) (l : List α) : Except Int Flt := match mapE one l with
  | .error e => .error e
  | .ok ss => .ok (.mk op ⟨#[]⟩ Val.zero ss)
def parseE (fd : Fld → Except Int Flt) (v : Val) : Except Int Flt := if v.kind ≠ 5 then .error 7 else manyE 0 fd v.fields
def fieldD : Nat → Fld → Except Int Flt
  | 0, _ => .error 0
  | d + 1, fl =>
    if namedI fl.1 = 0 ∨ namedI fl.1 = 1 then (if fl.2.kind ≠ 4 ∨ fl.2.list = [] then .error 7 else manyE (namedI fl.1) (parseE (fieldD d)) fl.2.list)
    else if pre36 fl.1 = true then .error 8 else if pathOk fl.1 = false then .error 6 else if isTests fl.2 = true then manyE 0 (testF fl.1) fl.2.fields else .ok (.mk 2 fl.1 fl.2 [])
def parseD (d : Nat) (v : Val) : Except Int Flt := parseE (fieldD d) v

theorem mapE_next {α : Type} {one : α → Except Int Flt} {x : α} {s : Flt} : ∀ {l : List α} {ss : List Flt}, mapE one l = .ok ss → one x = .ok s → mapE one (l ++ [x]) = .ok (ss ++ [s])
  | [], ss, h, hx => by
    injection h with h
    subst h
    simp [mapE, hx]
  | a :: r, ss, h, hx => by
    simp only [mapE, List.cons_append] at h ⊢
    cases ha : one a with
    | error e => rw [ha] at h; cases h
    | ok t =>
      rw [ha] at h
      cases hr : mapE one r with
      | error e => rw [hr] at h; cases h
      | ok tt =>
        rw [hr] at h
        injection h with h
        subst h
        simp only [mapE_next hr hx]
        rfl
theorem mapE_err {α : Type} {one : α → Except Int Flt} {x : α} {e : Int} : ∀ {l : List α} {ss : List Flt} (r : List α), mapE one l = .ok ss → one x = .error e → mapE one (l ++ x :: r) = .error e
  | [], ss, r, h, hx => by simp [mapE, hx]
  | a :: t, ss, r, h, hx => by
    simp only [mapE, List.cons_append] at h ⊢
    cases ha : one a with
    | error e => rw [ha] at h; cases h
    | ok s =>
      rw [ha] at h
      cases hr : mapE one t with
      | error e => rw [hr] at h; cases h
      | ok tt => simp only [mapE_err r hr hx]

/-- What reads filters reads of the program's own variables. -/
structure FilG (w : World) : Prop where
  par : ParG w
  ops : ∀ (j : Nat) (s : ByteArray), opsOf[j]? = some s → w.cell? ⟨5, j, none⟩ = some (.string s)
theorem FilG.below {w w' : World} (h : FilG w) (hb : Below w.heap.size w w') : FilG w' :=
  ⟨h.par.below hb, fun j s hj => (World.cell?_of_block (w := w) (hb.block 5 (Nat.lt_of_lt_of_le (by decide) h.par.lo))).trans (h.ops j s hj)⟩

set_option maxRecDepth 100000 in
set_option maxHeartbeats 4000000 in
theorem named_calls (nm : ByteArray) (w : World) (G : FilG w) : Calls Tryd.prog 49 #[.string nm] w fun e w' => e = .returned (.int .i64 (namedI nm)) ∧ w' = w := by
  have hidx := Tryd.slices_Index_string 5 0 10 10 opsOf nm w (by decide) (by decide) (fun j hj => by
    rw [Nat.zero_add]
    exact G.ops j _ (by rw [List.getD_eq_getElem?_getD, List.getElem?_eq_getElem hj]; rfl))
  have HI := Ap.of hidx
  have hlo : 5 < w.heap.size := Nat.lt_of_lt_of_le (by decide) G.par.lo
  clear hidx G
  show Calls _ _ _ _ (fun e w' => e = .returned (.int .i64 (Lib.idxOfS (opsOf.take 10) nm)) ∧ w' = w)
  generalize Lib.idxOfS (opsOf.take 10) nm = i at *
  go_enter Tryd.func49, Tryd.ntmps49
  go_wp2_with fail
  refine HI.out.mono ?_
  rintro e w1 ⟨rfl, rfl⟩
  go_wp2_with fail
  go_ret
  exact ⟨rfl, rfl⟩

set_option maxRecDepth 100000 in
set_option maxHeartbeats 4000000 in
theorem tests_calls (D : Nat) (x : Val) (la : Option Addr) (ln lc : Nat) (fa : Option Addr) (fn fc : Nat) (w : World) (hx : (KV (D + 2)).R w (fun _ => True) x [.int .i64 x.kind, .int .i64 x.int, .string x.text, .slice la ln lc, .slice fa fn fc]) :
    Calls Tryd.prog 53 #[.agg #[.int .i64 x.kind, .int .i64 x.int, .string x.text, .slice la ln lc, .slice fa fn fc]] w fun e w' => e = .returned (.bool (isTests x)) ∧ Below w.heap.size w w' := by
  have hf := (KV_parts hx).2.2.2.2
  have hlen := hf.length
  by_cases h5 : x.kind = 5
  case neg =>
    have hr : isTests x = false := by
      unfold isTests
      split
      · rfl
      · rw [show (x.kind == 5) = false by simpa using h5]; rfl
    have HR := Ap.of hr
    have t5 : (x.kind == 5) = false := by simpa using h5
    clear hx hf hlen hr h5
    generalize isTests x = r at *
    generalize x.kind = xk at *
    generalize x.int = xi at *
    generalize x.text = xt at *
    go_enter Tryd.func53, Tryd.ntmps53
    go_wp2_with fail
    go_ret
    exact ⟨by rw [HR.out]; rfl, bel_alloc _ _⟩
  case pos =>
    by_cases hn : fn = 0
    · have hr : isTests x = false := by
        unfold isTests
        rw [List.length_eq_zero_iff.1 (hlen.trans hn)]
      have HR := Ap.of hr
      have t0 : decide (0 < (fn : Int)) = false := by simp; omega
      have t0' : decide (0 < fn) = false := by simp; omega
      clear hx hf hlen hr hn
      generalize isTests x = r at *
      generalize x.kind = xk at *
      generalize x.int = xi at *
      generalize x.text = xt at *
      subst h5
      go_enter Tryd.func53, Tryd.ntmps53
      go_wp2_with fail
      go_ret
      exact ⟨by rw [HR.out]; rfl, bel_alloc _ _⟩
    · have hpos : 0 < fn := by omega
      obtain ⟨g2, off, nm, y, la2, xn, lc2, fa2, fn2, fc2, rfl, hy, hnm, hr, c0, _⟩ := fld_cells (hf.below (bel_alloc w (.cells #[.int .i64 x.kind, .int .i64 x.int, .string x.text, .slice la ln lc, .slice fa fn fc] 29))) hpos
      rw [Nat.zero_mul, Nat.add_zero] at c0
      have hr2 : isTests x = pre36 nm := by
        unfold isTests
        cases hfs : x.fields with
        | nil => rw [hfs] at hy; simp at hy
        | cons f r =>
          rw [hfs] at hy
          have : f = (nm, y) := by simpa using hy
          rw [this, show (x.kind == 5) = true by simpa using h5]; rfl
      have HR := Ap.of hr2
      have t0 : decide (0 < (fn : Int)) = true := by simp; omega
      have t0' : decide (0 < fn) = true := by simp; omega
      have lc0 := World.block_lt_of_cell? _ _ c0
      have HPF := Ap.of (fun W => Tryd.strings_HasPrefix nm ⟨#[36]⟩ W)
      clear hx hf hlen hn hy hnm hr hr2
      generalize isTests x = r at *
      generalize x.kind = xk at *
      generalize x.int = xi at *
      generalize x.text = xt at *
      subst h5
      go_enter Tryd.func53, Tryd.ntmps53
      go_wp2_with fail
      refine (HPF.out _).mono ?_
      rintro e w1 ⟨rfl, rfl⟩
      go_wp2_with fail
      go_ret
      exact ⟨by rw [HR.out]; rfl, bel_alloc _ _⟩
end Go.Proofs.YtlomieopppndeaaDoor
