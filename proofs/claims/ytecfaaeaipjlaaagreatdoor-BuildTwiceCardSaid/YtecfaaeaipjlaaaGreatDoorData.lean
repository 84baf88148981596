/- Values, fields and filters in memory. -/
import Derived.Test.YtecfaaeaipjlaaaGreatDoorBase
namespace Go.Proofs.YtecfaaeaipjlaaaGreatDoor
open Go.RowKit

/-- A value: kind, number, text, list, fields. -/
inductive Val where
  | mk (k n : Int) (s : ByteArray) (l : List Val) (f : List (ByteArray × Val))
/-- A filter: what it asks, where, the value, conditions in it. -/
inductive Flt where
  | mk (op : Int) (path : ByteArray) (v : Val) (subs : List Flt)
abbrev Fld := ByteArray × Val
def Val.zero : Val := .mk 0 0 ⟨#[]⟩ [] []
def Val.kind : Val → Int | .mk k _ _ _ _ => k
def Val.int : Val → Int | .mk _ n _ _ _ => n
def Val.text : Val → ByteArray | .mk _ _ s _ _ => s
def Val.list : Val → List Val | .mk _ _ _ l _ => l
def Val.fields : Val → List Fld | .mk _ _ _ _ f => f
def Flt.op : Flt → Int | .mk o _ _ _ => o
def Flt.path : Flt → ByteArray | .mk _ p _ _ => p
def Flt.val : Flt → Val | .mk _ _ v _ => v
def Flt.subs : Flt → List Flt | .mk _ _ _ s => s

def inI64 (n : Int) : Prop := -9223372036854775808 ≤ n ∧ n ≤ 9223372036854775807

/-- A struct of a text and what stands behind it. -/
def KFld (K : Knd Val) : Knd Fld where
  sz := K.sz + 1
  R w ok x cs := ∃ cs', cs = .string x.1 :: cs' ∧ x.1.size ≤ maxLen ∧ K.R w ok x.2 cs'
  len := by rintro w ok x cs ⟨cs', rfl, _, h⟩; simp [K.len h]
  one := by
    rintro w ok x cs ⟨cs', rfl, _, h⟩ u hu
    rcases List.mem_cons.1 hu with rfl | hu
    · rfl
    · exact K.one h u hu
  mono := by rintro w ok ok' x cs hs ⟨cs', rfl, a, h⟩; exact ⟨cs', rfl, a, K.mono hs h⟩
  bound := by rintro w ok x cs ⟨cs', rfl, a, h⟩; exact ⟨cs', rfl, a, K.bound h⟩
  move := by rintro w w' ok x cs hs ⟨cs', rfl, a, h⟩; exact ⟨cs', rfl, a, K.move hs h⟩

/-- Values at most so deep. -/
def KV : Nat → Knd Val
  | 0 =>
    { sz := 5, R := fun _ _ _ _ => False, len := fun h => h.elim, one := fun h => h.elim, mono := fun _ h => h.elim, bound := fun h => h.elim, move := fun _ h => h.elim }
  | d + 1 =>
    { sz := 5
      R := fun w ok x cs => ∃ la ln lc fa fn fc, cs = [.int .i64 x.kind, .int .i64 x.int, .string x.text, .slice la ln lc, .slice fa fn fc] ∧ inI64 x.kind ∧ inI64 x.int ∧ x.text.size ≤ maxLen ∧
        Row (KV d) w ok la ln lc x.list ∧ Row (KFld (KV d)) w ok fa fn fc x.fields
      len := by rintro w ok x cs ⟨la, ln, lc, fa, fn, fc, rfl, _⟩; rfl
      one := by
        rintro w ok x cs ⟨la, ln, lc, fa, fn, fc, rfl, _⟩ u hu
        simp only [List.mem_cons, List.not_mem_nil, or_false] at hu
        rcases hu with rfl | rfl | rfl | rfl | rfl <;> rfl
      mono := by rintro w ok ok' x cs hs ⟨la, ln, lc, fa, fn, fc, rfl, a, b, c, h1, h2⟩; exact ⟨la, ln, lc, fa, fn, fc, rfl, a, b, c, h1.mono hs, h2.mono hs⟩
      bound := by rintro w ok x cs ⟨la, ln, lc, fa, fn, fc, rfl, a, b, c, h1, h2⟩; exact ⟨la, ln, lc, fa, fn, fc, rfl, a, b, c, h1.bound, h2.bound⟩
      move := by rintro w w' ok x cs hs ⟨la, ln, lc, fa, fn, fc, rfl, a, b, c, h1, h2⟩; exact ⟨la, ln, lc, fa, fn, fc, rfl, a, b, c, h1.move hs, h2.move hs⟩ }
theorem KV_sz : ∀ d, (KV d).sz = 5
  | 0 => rfl
  | _ + 1 => rfl
theorem KFld_sz (d : Nat) : (KFld (KV d)).sz = 6 := by show (KV d).sz + 1 = 6; rw [KV_sz]

/-- Filters at most so deep, of values at most so deep. -/
def KF (dv : Nat) : Nat → Knd Flt
  | 0 =>
    { sz := 8, R := fun _ _ _ _ => False, len := fun h => h.elim, one := fun h => h.elim, mono := fun _ h => h.elim, bound := fun h => h.elim, move := fun _ h => h.elim }
  | d + 1 =>
    { sz := 8
      R := fun w ok x cs => ∃ vs sa sn sc, cs = .int .i64 x.op :: .string x.path :: (vs ++ [.slice sa sn sc]) ∧ inI64 x.op ∧ x.path.size ≤ maxLen ∧ (KV dv).R w ok x.val vs ∧ Row (KF dv d) w ok sa sn sc x.subs
      len := by rintro w ok x cs ⟨vs, sa, sn, sc, rfl, _, _, h, _⟩; have := (KV dv).len h; rw [KV_sz] at this; simp [this]
      one := by
        rintro w ok x cs ⟨vs, sa, sn, sc, rfl, _, _, h, _⟩ u hu
        simp only [List.mem_cons, List.mem_append, List.not_mem_nil, or_false] at hu
        rcases hu with rfl | rfl | hu | rfl
        · rfl
        · rfl
        · exact (KV dv).one h u hu
        · rfl
      mono := by rintro w ok ok' x cs hs ⟨vs, sa, sn, sc, rfl, a, b, h1, h2⟩; exact ⟨vs, sa, sn, sc, rfl, a, b, (KV dv).mono hs h1, h2.mono hs⟩
      bound := by rintro w ok x cs ⟨vs, sa, sn, sc, rfl, a, b, h1, h2⟩; exact ⟨vs, sa, sn, sc, rfl, a, b, (KV dv).bound h1, h2.bound⟩
      move := by rintro w w' ok x cs hs ⟨vs, sa, sn, sc, rfl, a, b, h1, h2⟩; exact ⟨vs, sa, sn, sc, rfl, a, b, (KV dv).move hs h1, h2.move hs⟩ }
theorem KF_sz (dv : Nat) : ∀ d, (KF dv d).sz = 8
  | 0 => rfl
  | _ + 1 => rfl

section
variable {w : World} {ok : Nat → Prop} {d dv : Nat}
theorem KV_zero (w : World) (ok : Nat → Prop) (d : Nat) : (KV (d + 1)).R w ok .zero [.int .i64 0, .int .i64 0, .string ⟨#[]⟩, .slice none 0 0, .slice none 0 0] :=
  ⟨none, 0, 0, none, 0, 0, rfl, ⟨by decide, by decide⟩, ⟨by decide, by decide⟩, by decide, Row.nil _ _ _, Row.nil _ _ _⟩
/-- A deeper bound is met, too. -/
theorem Row.deeper {α : Type} {K K' : Knd α} (hsz : K'.sz = K.sz) (hR : ∀ w ok x cs, K.R w ok x cs → K'.R w ok x cs) {A : Option Addr} {n c : Nat} {xs : List α} (h : Row K w ok A n c xs) : Row K' w ok A n c xs := by
  rcases h with h | ⟨g, off, h1, h2, h3, h4, h5, h6, h7⟩
  · exact .inl h
  · exact .inr ⟨g, off, h1, h2, h3, h4, h5, h6, fun i x hx => by obtain ⟨cs, a, b⟩ := h7 i x hx; exact ⟨cs, hR _ _ _ _ a, by rw [hsz]; exact b⟩⟩
theorem KV_deeper : ∀ (d : Nat) (w : World) (ok : Nat → Prop) (x : Val) (cs : List Value), (KV d).R w ok x cs → (KV (d + 1)).R w ok x cs
  | 0, _, _, _, _ => fun h => h.elim
  | d + 1, w, ok, x, cs => by
    rintro ⟨la, ln, lc, fa, fn, fc, rfl, a, b, c, h1, h2⟩
    exact ⟨la, ln, lc, fa, fn, fc, rfl, a, b, c, h1.deeper (by rw [KV_sz, KV_sz]) (KV_deeper d), h2.deeper (by rw [KFld_sz, KFld_sz]) (by rintro w ok x cs ⟨cs', e, hl, h⟩; exact ⟨cs', e, hl, KV_deeper d w ok x.2 cs' h⟩)⟩
theorem KV_le {d d' : Nat} (h : d ≤ d') (w : World) (ok : Nat → Prop) (x : Val) (cs : List Value) (hx : (KV d).R w ok x cs) : (KV d').R w ok x cs := by
  obtain ⟨k, rfl⟩ : ∃ k, d' = d + k := ⟨d' - d, by omega⟩
  clear h
  induction k with
  | zero => exact hx
  | succ k ih => exact KV_deeper _ w ok x cs ih
theorem Only.set {S : Nat → Prop} {w w1 : World} {p : Addr} (h : Only S w w1) (hp : S p.block) (u : Value) : Only S w (w1.setCell p u) :=
  h.trans (Only.setCell w1 p u) (fun i hi => .inl (by rw [hi]; exact hp))
theorem Only.alloc {S : Nat → Prop} {w w1 : World} (h : Only S w w1) (o : Obj) : Only S w (w1.alloc o) := h.trans (Only.of_below (bel_alloc w1 o) (fun _ => False)) (fun _ hf => hf.elim)
theorem Only.draw {S : Nat → Prop} {w w1 : World} (h : Only S w w1) : Only S w w1.drew := ⟨h.os, h.tape, h.output, h.size, h.block⟩
theorem Only.bel {S : Nat → Prop} {w w1 w2 : World} (h : Only S w w1) (hb : Below w1.heap.size w1 w2) : Only S w w2 := h.trans (Only.of_below hb (fun _ => False)) (fun _ hf => hf.elim)

theorem only5 (w : World) (g : Nat) (v0 v1 v2 v3 v4 : Value) : Only (fun j => j = g) w (((((w.setCell ⟨g, 0, none⟩ v0).setCell ⟨g, 1, none⟩ v1).setCell ⟨g, 2, none⟩ v2).setCell ⟨g, 3, none⟩ v3).setCell ⟨g, 4, none⟩ v4) :=
  Only.set (S := fun j => j = g) (p := ⟨g, 4, none⟩) (Only.set (S := fun j => j = g) (p := ⟨g, 3, none⟩) (Only.set (S := fun j => j = g) (p := ⟨g, 2, none⟩) (Only.set (S := fun j => j = g) (p := ⟨g, 1, none⟩) (Only.set (S := fun j => j = g) (p := ⟨g, 0, none⟩) (Only.refl _ w) rfl v0) rfl v1) rfl v2) rfl v3) rfl v4
theorem only6 (w : World) (g : Nat) (v0 v1 v2 v3 v4 v5 : Value) : Only (fun j => j = g) w ((((((w.setCell ⟨g, 0, none⟩ v0).setCell ⟨g, 1, none⟩ v1).setCell ⟨g, 2, none⟩ v2).setCell ⟨g, 3, none⟩ v3).setCell ⟨g, 4, none⟩ v4).setCell ⟨g, 5, none⟩ v5) :=
  Only.set (S := fun j => j = g) (p := ⟨g, 5, none⟩) (Only.set (S := fun j => j = g) (p := ⟨g, 4, none⟩) (Only.set (S := fun j => j = g) (p := ⟨g, 3, none⟩) (Only.set (S := fun j => j = g) (p := ⟨g, 2, none⟩) (Only.set (S := fun j => j = g) (p := ⟨g, 1, none⟩) (Only.set (S := fun j => j = g) (p := ⟨g, 0, none⟩) (Only.refl _ w) rfl v0) rfl v1) rfl v2) rfl v3) rfl v4) rfl v5
theorem only8 (w : World) (g : Nat) (v0 v1 v2 v3 v4 v5 v6 v7 : Value) : Only (fun j => j = g) w ((((((((w.setCell ⟨g, 0, none⟩ v0).setCell ⟨g, 1, none⟩ v1).setCell ⟨g, 2, none⟩ v2).setCell ⟨g, 3, none⟩ v3).setCell ⟨g, 4, none⟩ v4).setCell ⟨g, 5, none⟩ v5).setCell ⟨g, 6, none⟩ v6).setCell ⟨g, 7, none⟩ v7) :=
  Only.set (S := fun j => j = g) (p := ⟨g, 7, none⟩) (Only.set (S := fun j => j = g) (p := ⟨g, 6, none⟩) (Only.set (S := fun j => j = g) (p := ⟨g, 5, none⟩) (Only.set (S := fun j => j = g) (p := ⟨g, 4, none⟩) (Only.set (S := fun j => j = g) (p := ⟨g, 3, none⟩) (Only.set (S := fun j => j = g) (p := ⟨g, 2, none⟩) (Only.set (S := fun j => j = g) (p := ⟨g, 1, none⟩) (Only.set (S := fun j => j = g) (p := ⟨g, 0, none⟩) (Only.refl _ w) rfl v0) rfl v1) rfl v2) rfl v3) rfl v4) rfl v5) rfl v6) rfl v7
/-- A list of bytes that came in. -/
def Bs (w : World) (ok : Nat → Prop) (A : Option Addr) (n c : Nat) : Prop :=
  n ≤ c ∧ c ≤ 9223372036854775807 ∧ (A = none → c = 0) ∧ (n = 0 ∨ ∃ g off, A = some ⟨g, off, none⟩ ∧ ok g ∧ g < w.heap.size ∧ ∀ i, i < n → ∃ x : Int, w.cell? ⟨g, off + i, none⟩ = some (.int .u8 x) ∧ 0 ≤ x ∧ x ≤ 255)
theorem Bs.only {S : Nat → Prop} {w w' : World} {A : Option Addr} {n c : Nat} (h : Bs w ok A n c) (hb : Only S w w') (hs : ∀ k, ok k → ¬ S k) : Bs w' ok A n c := by
  obtain ⟨h1, h2, h3, h4⟩ := h
  refine ⟨h1, h2, h3, ?_⟩
  rcases h4 with h4 | ⟨g, off, a, b, c, e⟩
  · exact .inl h4
  · exact .inr ⟨g, off, a, b, Nat.lt_of_lt_of_le c hb.size, fun i hi => by
      obtain ⟨x, hx, r⟩ := e i hi
      exact ⟨x, (World.cell?_of_block (w := w) (hb.block g c (hs g b))).trans hx, r⟩⟩
theorem Bs.below {w w' : World} {A : Option Addr} {n c : Nat} (h : Bs w ok A n c) (hb : Below w.heap.size w w') : Bs w' ok A n c := h.only (Only.of_below hb (fun _ => False)) (fun _ _ hf => hf)
theorem Bs.mono {ok ok' : Nat → Prop} {w : World} {A : Option Addr} {n c : Nat} (hs : ∀ k, ok k → ok' k) (h : Bs w ok A n c) : Bs w ok' A n c := by
  obtain ⟨h1, h2, h3, h4⟩ := h
  refine ⟨h1, h2, h3, ?_⟩
  rcases h4 with h4 | ⟨g, off, a, b, c, e⟩
  · exact .inl h4
  · exact .inr ⟨g, off, a, hs g b, c, e⟩
end
end Go.Proofs.YtecfaaeaipjlaaaGreatDoor
