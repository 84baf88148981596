/- What a path finds: value.Get, path.place, path.step, path.Find. -/
import Derived.Test.YtecfaaeaipjlaaaGreatDoorGenL
import Derived.Test.YtecfaaeaipjlaaaGreatDoorShelf
namespace Go.Proofs.YtecfaaeaipjlaaaGreatDoor
open Go.RowKit

theorem beq_toList (a b : ByteArray) : (a.toList == b.toList) = decide (a = b) := by
  rw [Bool.eq_iff_iff, beq_iff_eq, decide_eq_true_iff]
  constructor
  · intro h
    rw [ByteArray.toList_eq, ByteArray.toList_eq] at h
    cases a; cases b
    simpa [Array.toList_inj] using h
  · rintro rfl; rfl
set_option maxHeartbeats 1000000 in
theorem at1_calls (g : Nat) (nm : ByteArray) (v0 v1 v2 v3 v4 : Value) (name : ByteArray) (w : World) (hg : w.cell? ⟨g, 0, none⟩ = some (.string name)) :
    Calls Tryz.prog 165 #[.agg #[.string nm, v0, v1, v2, v3, v4], .pointer (some ⟨g, 0, none⟩)] w fun e w' => e = .returned (.bool (decide (nm = name))) ∧ Below w.heap.size w w' := by
  have hl : g < w.heap.size := World.block_lt_of_cell? w _ hg
  go_enter Tryz.func165, Tryz.ntmps165
  go_wp2
  all_goals go_ret
  all_goals exact ⟨by rw [← beq_toList]; rfl, bel_alloc _ _⟩

/-- Where a field of that name stands; below 0: nowhere. -/
def fIdx (fs : List Fld) (name : ByteArray) : Int := match fs.findIdx? (fun f => decide (f.1 = name)) with
  | some k => k
  | none => -1

/-- The cells of an element of a row of fields. -/
theorem fld_cells {d : Nat} {w : World} {ok : Nat → Prop} {A : Option Addr} {n c : Nat} {fs : List Fld} (h : Row (KFld (KV (d + 1))) w ok A n c fs) {i : Nat} (hi : i < n) :
    ∃ g off nm x la ln lc fa fn fc, A = some ⟨g, off, none⟩ ∧ fs[i]? = some (nm, x) ∧ nm.size ≤ maxLen ∧ (KV (d + 1)).R w ok x [.int .i64 x.kind, .int .i64 x.int, .string x.text, .slice la ln lc, .slice fa fn fc] ∧
      w.cell? ⟨g, off + i * 6, none⟩ = some (.string nm) ∧ w.cell? ⟨g, off + i * 6 + 1, none⟩ = some (.int .i64 x.kind) ∧ w.cell? ⟨g, off + i * 6 + 2, none⟩ = some (.int .i64 x.int) ∧ w.cell? ⟨g, off + i * 6 + 3, none⟩ = some (.string x.text) ∧
      w.cell? ⟨g, off + i * 6 + 4, none⟩ = some (.slice la ln lc) ∧ w.cell? ⟨g, off + i * 6 + 5, none⟩ = some (.slice fa fn fc) := by
  obtain ⟨g, off, ⟨nm, x⟩, cs, hA, hx, ⟨cs', rfl, hnm, la, ln, lc, fa, fn, fc, rfl, hr⟩, hc⟩ := h.elem hi
  rw [KFld_sz] at hc
  exact ⟨g, off, nm, x, la, ln, lc, fa, fn, fc, hA, hx, hnm, ⟨la, ln, lc, fa, fn, fc, rfl, hr⟩, hc 0 _ rfl, hc 1 _ rfl, hc 2 _ rfl, hc 3 _ rfl, hc 4 _ rfl, hc 5 _ rfl⟩

set_option maxRecDepth 100000 in
set_option maxHeartbeats 1000000 in
theorem idxf_calls (d : Nat) (g : Nat) (name : ByteArray) (A : Option Addr) (ln lc : Nat) (fs : List Fld) (ok : Nat → Prop) (w : World) (hg : w.cell? ⟨g, 0, none⟩ = some (.string name)) (h : Row (KFld (KV (d + 1))) w ok A ln lc fs) :
    Calls Tryz.prog 164 #[.slice A ln lc, .func (.func 165) #[] #[.pointer (some ⟨g, 0, none⟩)]] w fun e w' => e = .returned (.int .i64 (fIdx fs name)) ∧ Below w.heap.size w w' := by
  have hlen := h.length
  have hcap := h.cap
  have HG := Ap.of hg
  have HW := Ap.of (World.block_lt_of_cell? w _ hg)
  have H := Ap.of h
  have HLN := Ap.of hlen
  clear hg h hlen
  go_enter Tryz.func164, Tryz.ntmps164
  go_wp2_with fail
  go_loopw [8] (fun i wr => ∃ k : Nat, k ≤ ln ∧ i = .int .i64 k ∧ Ap ((fs.take k).findIdx? (fun f => decide (f.1 = name)) = none) ∧ Ap (Below w.heap.size w wr)) (fun i _ => ln - (intOf i).toNat)
  case atStart => exact ⟨0, Nat.zero_le _, rfl, Ap.of (by simp), Ap.of (Below.refl _ _)⟩
  case round =>
    obtain ⟨k, hk, rfl, HN, BL⟩ := hrel
    by_cases hlt : k < ln
    · obtain ⟨g2, off, nm, x, la, xn, lc2, fa, fn, fc, rfl, hx, hnm, hr, c0, c1, c2, c3, c4, c5⟩ := fld_cells (H.out.below BL.out) hlt
      have ht : fs.take (k + 1) = fs.take k ++ [(nm, x)] := by
        have hkl : k < fs.length := by rw [HLN.out]; exact hlt
        rw [List.take_succ_eq_append_getElem hkl]
        rw [List.getElem?_eq_getElem hkl] at hx
        injection hx with hx
        rw [hx]
      have HX := Ap.of hx
      have HT := Ap.of ht
      have hcall := at1_calls g nm (.int .i64 x.kind) (.int .i64 x.int) (.string x.text) (.slice la xn lc2) (.slice fa fn fc) name wr ((World.cell?_of_block (w := w) (BL.out.block g HW.out)).trans HG.out)
      have HC := Ap.of hcall
      have hkl : k < fs.length := by rw [HLN.out]; exact hlt
      clear hx ht hr hcall
      cases hb : decide (nm = name) with
      | true =>
        have HB := Ap.of hb
        clear hb
        go_wp2_with fail
        refine HC.out.mono ?_
        rw [HB.out]
        rintro e w1 ⟨rfl, hbl⟩
        go_wp2_with fail
        go_ret
        exact ⟨by
          have : fs.findIdx? (fun f => decide (f.1 = name)) = some k := by
            rw [← List.take_append_drop (k + 1) fs, List.findIdx?_append, HT.out, List.findIdx?_append, HN.out]
            have hkl : (fs.take k).length = k := by rw [List.length_take]; omega
            simp [HB.out, hkl]
          unfold fIdx; rw [this]; rfl, bel_stepB BL.out BL.out.size hbl⟩
      | false =>
        have HB := Ap.of hb
        clear hb
        go_wp2_with fail
        refine HC.out.mono ?_
        rw [HB.out]
        rintro e w1 ⟨rfl, hbl⟩
        go_wp2_with fail
        go_roundw
        case rel => exact ⟨k + 1, by omega, by go_num, Ap.of (by rw [HT.out, List.findIdx?_append, HN.out]; simp [HB.out]), Ap.of (bel_stepB BL.out BL.out.size hbl)⟩
        case measure => simp [intOf]; omega
    · obtain rfl : k = ln := by omega
      go_wp2_with fail
      go_ret
      exact ⟨by have := HN.out; rw [← HLN.out, List.take_length] at this; unfold fIdx; rw [this]; rfl, BL.out⟩

def Val.get (x : Val) (name : ByteArray) : Option Val := if x.kind = 5 then (x.fields.find? (fun f => decide (f.1 = name))).map Prod.snd else none
/-- The number of a field, as value.at tells it. -/
def Val.at (x : Val) (name : ByteArray) : Int := if x.kind = 5 then fIdx x.fields name else -1

set_option maxRecDepth 100000 in
set_option maxHeartbeats 1000000 in
theorem at_calls (d : Nat) (x : Val) (la : Option Addr) (ln lc : Nat) (fa : Option Addr) (fn fc : Nat) (name : ByteArray) (ok : Nat → Prop) (w : World) (h : (KV (d + 2)).R w ok x [.int .i64 x.kind, .int .i64 x.int, .string x.text, .slice la ln lc, .slice fa fn fc]) :
    Calls Tryz.prog 149 #[.agg #[.int .i64 x.kind, .int .i64 x.int, .string x.text, .slice la ln lc, .slice fa fn fc], .string name] w fun e w' => e = .returned (.int .i64 (x.at name)) ∧ Below w.heap.size w w' := by
  have hf : Row (KFld (KV (d + 1))) w ok fa fn fc x.fields := by
    obtain ⟨_, _, _, _, _, _, he, _, _, _, _, h2⟩ := h
    simp only [List.cons.injEq, Value.slice.injEq, and_true, true_and] at he
    obtain ⟨_, rfl, rfl, rfl⟩ := he
    exact h2
  have H := Ap.of hf
  clear hf h
  generalize hi : x.int = n
  generalize ht : x.text = s
  cases hk : decide (x.kind = 5) with
  | true =>
    have hk := of_decide_eq_true hk
    have hat : x.at name = fIdx x.fields name := by simp [Val.at, hk]
    rw [hat, hk]
    clear hat hk
    go_enter Tryz.func149, Tryz.ntmps149
    go_wp2_with fail
    refine (idxf_calls d _ name fa fn fc x.fields ok _ ?g1 ?g2).mono ?_
    case g1 => exact blk_cells (blk_new (by simp)) 0
    case g2 => exact (H.out.below (bel_alloc _ _)).below (bel_alloc _ _)
    rintro e w1 ⟨rfl, hb⟩
    go_wp2_with fail
    go_ret
    exact ⟨rfl, bel_step (bel_step (bel_alloc _ _) (bel_alloc _ _)) hb⟩
  | false =>
    have hk := of_decide_eq_false hk
    have hat : x.at name = -1 := by simp [Val.at, hk]
    have hk' : (x.kind == 5) = false := by simpa using hk
    rw [hat]
    clear hat hk
    generalize x.kind = k at *
    go_enter Tryz.func149, Tryz.ntmps149
    go_wp2_with fail
    go_ret
    exact ⟨rfl, bel_step (bel_alloc _ _) (bel_alloc _ _)⟩

theorem Utf8Tabs_kept {g3 g4 : Nat} {w w' : World} (h : Lib.Utf8Tabs g3 g4 w) (h3 : w'.heap[g3]? = w.heap[g3]?) (h4 : w'.heap[g4]? = w.heap[g4]?) : Lib.Utf8Tabs g3 g4 w' := by
  have hc3 : ∀ j, w'.cell? ⟨g3, j, none⟩ = w.cell? ⟨g3, j, none⟩ := fun j => World.cell?_of_block (w := w) h3
  have hc4 : ∀ j, w'.cell? ⟨g4, j, none⟩ = w.cell? ⟨g4, j, none⟩ := fun j => World.cell?_of_block (w := w) h4
  exact ⟨fun c hc => (hc3 _).trans (h.1 c hc), fun i hi => ⟨(hc4 _).trans (h.2 i hi).1, (hc4 _).trans (h.2 i hi).2⟩⟩
/-- What path.Parse reads of the program's own variables. -/
structure ParG (w : World) : Prop where
  lo : 9 ≤ w.heap.size
  ml : ∃ m, w.cell? ⟨1, 0, none⟩ = some (.int .i64 m)
  ut : Lib.Utf8Tabs 2 3 w
theorem ParG.below {w w' : World} (h : ParG w) (hb : Below w.heap.size w w') : ParG w' :=
  have hc : ∀ g, g < 9 → ∀ j, w'.cell? ⟨g, j, none⟩ = w.cell? ⟨g, j, none⟩ := fun g hg j => World.cell?_of_block (w := w) (hb.block g (by have := h.lo; omega))
  ⟨Nat.le_trans h.lo hb.size, by obtain ⟨m, e⟩ := h.ml; exact ⟨m, (hc _ (by decide) 0).trans e⟩, Utf8Tabs_kept h.ut (hb.block _ (Nat.lt_of_lt_of_le (by decide) h.lo)) (hb.block _ (Nat.lt_of_lt_of_le (by decide) h.lo))⟩
/-- What path.Find reads of them. -/
structure FinG (w : World) : Prop where
  esyn : ∃ t p, w.cell? ⟨4, 0, none⟩ = some (.iface t p)
  eran : ∃ t p, w.cell? ⟨5, 0, none⟩ = some (.iface t p)
  lo : 9 ≤ w.heap.size
theorem FinG.below {w w' : World} (h : FinG w) (hb : Below w.heap.size w w') : FinG w' :=
  have hc : ∀ g, g < 9 → ∀ j, w'.cell? ⟨g, j, none⟩ = w.cell? ⟨g, j, none⟩ := fun g hg j => World.cell?_of_block (w := w) (hb.block g (by have := h.lo; omega))
  ⟨by obtain ⟨t, p, e⟩ := h.esyn; exact ⟨t, p, (hc _ (by decide) 0).trans e⟩, by obtain ⟨t, p, e⟩ := h.eran; exact ⟨t, p, (hc _ (by decide) 0).trans e⟩, Nat.le_trans h.lo hb.size⟩
/-- What reads an error's code reads of them. -/
structure ErrG (w : World) : Prop where
  lo : 9 ≤ w.heap.size
  et : w.cell? ⟨0, 0, none⟩ = some (.iface 164 (.agg #[.pointer (some ⟨9, 35, none⟩)]))
theorem ErrG.below {w w' : World} (h : ErrG w) (hb : Below w.heap.size w w') : ErrG w' :=
  ⟨Nat.le_trans h.lo hb.size, (World.cell?_of_block (w := w) (hb.block _ (Nat.lt_of_lt_of_le (by decide) h.lo))).trans h.et⟩

/-- Which place of a list so long a part names. -/
def digitB (k : Nat) : ByteArray := ⟨#[UInt8.ofNat (48 + k)]⟩
def placeOf (n : Nat) (part : ByteArray) : Option Nat := (List.range n).find? (fun k => decide (part = digitB k))
def placeI (n : Nat) (part : ByteArray) : Int := match placeOf n part with
  | some k => k
  | none => -1
theorem placeOf_some {n k : Nat} {part : ByteArray} (h : placeOf n part = some k) : k < n ∧ part = digitB k := by
  have h1 := List.find?_some h
  have h2 := List.mem_of_find?_eq_some h
  exact ⟨by simpa using h2, by simpa using h1⟩
theorem placeOf_none {n k : Nat} {part : ByteArray} (h : placeOf n part = none) (hk : k < n) : part ≠ digitB k := by
  have := List.find?_eq_none.1 h k (by simpa using hk)
  simpa using this
theorem atoi_digit : ∀ k : Nat, k < 10 → Lib.atoiAll (digitB k).data.toList = .ok (k : Int) := by decide +kernel

/-- A part that is no number. -/
theorem atoi_err (part : ByteArray) (hp : part.size ≤ 281474976710656) (w : World) (G : FinG w) (hno : ∀ v, Lib.atoiAll part.data.toList ≠ .ok v) :
    Calls Tryz.prog 150 #[.string part] w fun e w' => ∃ (z : Int) (t : TypeId) (N : Nat), e = .returned (.tuple #[.int .i64 z, .iface t (.pointer (some ⟨N, 0, none⟩))]) ∧ Below w.heap.size w w' := by
  obtain ⟨t1, p1, hs⟩ := G.esyn
  obtain ⟨t2, p2, hr⟩ := G.eran
  cases ha : Lib.atoiAll part.data.toList
  all_goals first
    | exact (hno _ ha).elim
    | exact (Any.strconv_Atoi_range Tryz.laysC172 part hp ha _ w hr (.inr ⟨_, _, rfl⟩)).mono fun e w' ⟨N, h, _, _, hb⟩ => ⟨_, _, N, h, hb⟩
    | exact (Any.strconv_Atoi_syntax Tryz.laysC172 part hp ha _ w hs (.inr ⟨_, _, rfl⟩)).mono fun e w' ⟨N, h, _, _, hb⟩ => ⟨_, _, N, h, hb⟩
set_option maxRecDepth 100000 in
set_option maxHeartbeats 1000000 in
theorem place_bad (A : Option Addr) (n c : Nat) (part : ByteArray) (hp : part.size ≤ 281474976710656) (w : World) (G : FinG w) (hbad : ∀ v, Lib.atoiAll part.data.toList ≠ .ok v) :
    Calls Tryz.prog 127 #[.slice A n c, .string part] w fun e w' => e = .returned (.int .i64 (-1)) ∧ Below w.heap.size w w' := by
  have HE := Ap.of (atoi_err part hp w G hbad)
  clear hp G hbad
  go_enter Tryz.func127, Tryz.ntmps127
  go_wp2_with fail
  refine HE.out.mono ?_
  rintro e w1 ⟨z, t, N, rfl, hb⟩
  go_wp2_with fail
  go_ret
  exact ⟨rfl, hb⟩
set_option maxRecDepth 100000 in
set_option maxHeartbeats 1000000 in
theorem place_num (A : Option Addr) (n c : Nat) (hn : n ≤ 10) (part : ByteArray) (hp : part.size ≤ 281474976710656) (w : World) (v : Int) (hv : Lib.atoiAll part.data.toList = .ok v) :
    Calls Tryz.prog 127 #[.slice A n c, .string part] w fun e w' => e = .returned (.int .i64 (if 0 ≤ v ∧ v < n ∧ part = digitB v.toNat then v else -1)) ∧ Below w.heap.size w w' := by
  have HA := Ap.of (Tryz.strconv_Atoi_ok part (by omega) v hv w)
  have hbl : ∀ w1, (w1 = w ∨ ∃ t, w1 = Lib.bytesWorld w 5 t) → Below w.heap.size w w1 := by
    rintro w1 (rfl | ⟨t, rfl⟩)
    · exact Below.refl _ _
    · exact ⟨rfl, rfl, rfl, by rw [Lib.bytesWorld_size]; omega, fun k hk => Lib.bytesWorld_at_old w 5 t k hk⟩
  have HB := Ap.of hbl
  clear hbl hv hp
  by_cases h0 : v < 0
  · have e0 : (if 0 ≤ v ∧ v < n ∧ part = digitB v.toNat then v else -1) = -1 := if_neg (by omega)
    have t0 : decide (v < 0) = true := by simpa using h0
    rw [e0]
    clear e0
    go_enter Tryz.func127, Tryz.ntmps127
    go_wp2_with fail
    refine HA.out.mono ?_
    rintro e w1 ⟨rfl, hb⟩
    go_wp2_with fail
    go_ret
    exact ⟨rfl, HB.out _ hb⟩
  · obtain ⟨k, rfl⟩ : ∃ k : Nat, v = (k : Int) := ⟨v.toNat, by omega⟩
    clear h0
    have t0 : decide ((k : Int) < 0) = false := by simp
    by_cases h1 : k < n
    · have hit : ∀ w, Calls Tryz.prog 151 #[.int .i64 (k : Int)] w fun e w' => e = .returned (.string (digitB k)) ∧ w' = w := by
        intro w
        have := Tryz.strconv_Itoa_small k (by omega) w
        rw [Lib.decDigits_one (by omega)] at this
        exact this
      have HI := Ap.of hit
      clear hit
      have t1 : decide ((n : Int) ≤ (k : Int)) = false := by simp; omega
      have hif : (if 0 ≤ (k : Int) ∧ (k : Int) < n ∧ part = digitB (k : Int).toNat then (k : Int) else -1) = if decide (digitB k = part) = true then (k : Int) else -1 := by
        by_cases he : digitB k = part
        · rw [if_pos ⟨by omega, by omega, by simpa using he.symm⟩, if_pos (by simpa using he)]
        · rw [if_neg (fun h => he (by simpa using h.2.2.symm)), if_neg (by simpa using he)]
      rw [hif]
      clear hif
      have hbeq := beq_toList (digitB k) part
      generalize digitB k = q at *
      cases hd : decide (q = part) with
      | true =>
        rw [hd] at hbeq
        rw [if_pos rfl]
        clear hd
        go_enter Tryz.func127, Tryz.ntmps127
        go_wp2_with fail
        refine HA.out.mono ?_
        rintro e w1 ⟨rfl, hb⟩
        have HBB := Ap.of (HB.out _ hb)
        clear hb
        go_wp2_with fail
        refine (HI.out w1).mono ?_
        rintro e w2 ⟨rfl, rfl⟩
        go_wp2_with fail
        go_ret
        exact ⟨rfl, HBB.out⟩
      | false =>
        rw [hd] at hbeq
        rw [if_neg Bool.false_ne_true]
        clear hd
        go_enter Tryz.func127, Tryz.ntmps127
        go_wp2_with fail
        refine HA.out.mono ?_
        rintro e w1 ⟨rfl, hb⟩
        have HBB := Ap.of (HB.out _ hb)
        clear hb
        go_wp2_with fail
        refine (HI.out w1).mono ?_
        rintro e w2 ⟨rfl, rfl⟩
        go_wp2_with fail
        go_ret
        exact ⟨rfl, HBB.out⟩
    · have t1 : decide ((n : Int) ≤ (k : Int)) = true := by simp; omega
      have e0 : (if 0 ≤ (k : Int) ∧ (k : Int) < n ∧ part = digitB (k : Int).toNat then (k : Int) else -1) = -1 := if_neg (by omega)
      rw [e0]
      clear e0
      go_enter Tryz.func127, Tryz.ntmps127
      go_wp2_with fail
      refine HA.out.mono ?_
      rintro e w1 ⟨rfl, hb⟩
      have HBB := Ap.of (HB.out _ hb)
      clear hb
      go_wp2_with fail
      go_ret
      exact ⟨rfl, HBB.out⟩
theorem digitB_ne {k j : Nat} (hk : k < 10) (hj : j < 10) (h : digitB k = digitB j) : k = j := by
  have : ∀ k : Nat, k < 10 → ∀ j : Nat, j < 10 → digitB k = digitB j → k = j := by decide +kernel
  exact this k hk j hj h
theorem place_calls (A : Option Addr) (n c : Nat) (hn : n ≤ 10) (part : ByteArray) (hp : part.size ≤ 281474976710656) (w : World) (G : FinG w) :
    Calls Tryz.prog 127 #[.slice A n c, .string part] w fun e w' => e = .returned (.int .i64 (placeI n part)) ∧ Below w.heap.size w w' := by
  have hno : (∀ v, Lib.atoiAll part.data.toList ≠ .ok v) → placeI n part = -1 := fun h => by
    unfold placeI
    cases hk : placeOf n part with
    | none => rfl
    | some k =>
      obtain ⟨hk1, rfl⟩ := placeOf_some hk
      exact (h k (atoi_digit k (by omega))).elim
  by_cases hv : ∃ v, Lib.atoiAll part.data.toList = .ok v
  · obtain ⟨v, ha⟩ := hv
    refine (place_num A n c hn part hp w v ha).mono fun e w' h => ?_
    rw [h.1]
    refine ⟨?_, h.2⟩
    congr 3
    unfold placeI
    cases hk : placeOf n part with
    | none =>
      refine if_neg fun ⟨h0, h1, h2⟩ => placeOf_none hk (k := v.toNat) (by omega) h2
    | some k =>
      obtain ⟨hk1, rfl⟩ := placeOf_some hk
      have := atoi_digit k (by omega)
      rw [this] at ha
      injection ha with ha
      subst ha
      exact if_pos ⟨by omega, by omega, by simp⟩
  · have hv' : ∀ v, Lib.atoiAll part.data.toList ≠ .ok v := fun v h => hv ⟨v, h⟩
    rw [hno hv']
    exact place_bad A n c part hp w G hv'

theorem fIdx_cases (fs : List Fld) (name : ByteArray) : (∃ (k : Nat) (x : Val), fIdx fs name = (k : Int) ∧ fs[k]? = some (name, x) ∧ fs.find? (fun f => decide (f.1 = name)) = some (name, x)) ∨ (fIdx fs name = -1 ∧ fs.find? (fun f => decide (f.1 = name)) = none) := by
  unfold fIdx
  induction fs with
  | nil => exact .inr ⟨rfl, rfl⟩
  | cons f r ih =>
    obtain ⟨nm, x⟩ := f
    by_cases h : nm = name
    · subst h
      exact .inl ⟨0, x, by simp [List.findIdx?_cons], rfl, by simp⟩
    · rcases ih with ⟨k, y, h1, h2, h3⟩ | ⟨h1, h2⟩
      · refine .inl ⟨k + 1, y, ?_, by simpa using h2, by simp [h, h3]⟩
        rw [List.findIdx?_cons]
        simp only [h, decide_false, Bool.false_eq_true, if_false]
        cases hf : r.findIdx? (fun f => decide (f.1 = name)) with
        | none => rw [hf] at h1; simp at h1; try omega
        | some j => rw [hf] at h1; simp at h1 ⊢; omega
      · refine .inr ⟨?_, by simp [h]; simpa using h2⟩
        rw [List.findIdx?_cons]
        simp only [h, decide_false, Bool.false_eq_true, if_false]
        cases hf : r.findIdx? (fun f => decide (f.1 = name)) with
        | none => rfl
        | some j => rw [hf] at h1; simp at h1; try omega

/-- A value that is told, if there is one: else the zero value. -/
def FoundP (d : Nat) (w : World) (ok : Nat → Prop) (o : Option Val) (e : Ending) (w' : World) : Prop :=
  ∃ (y : Val) (la : Option Addr) (ln lc : Nat) (fa : Option Addr) (fn fc : Nat), e = .returned (.tuple #[.agg #[.int .i64 y.kind, .int .i64 y.int, .string y.text, .slice la ln lc, .slice fa fn fc], .bool o.isSome]) ∧ y = o.getD Val.zero ∧
    (KV d).R w' ok y [.int .i64 y.kind, .int .i64 y.int, .string y.text, .slice la ln lc, .slice fa fn fc] ∧ Below w.heap.size w w'
/-- The parts of a value's cells. -/
theorem KV_parts {d : Nat} {w : World} {ok : Nat → Prop} {x : Val} {la : Option Addr} {ln lc : Nat} {fa : Option Addr} {fn fc : Nat} (h : (KV (d + 1)).R w ok x [.int .i64 x.kind, .int .i64 x.int, .string x.text, .slice la ln lc, .slice fa fn fc]) :
    inI64 x.kind ∧ inI64 x.int ∧ x.text.size ≤ maxLen ∧ Row (KV d) w ok la ln lc x.list ∧ Row (KFld (KV d)) w ok fa fn fc x.fields := by
  obtain ⟨_, _, _, _, _, _, he, a, b, c, h1, h2⟩ := h
  simp only [List.cons.injEq, Value.slice.injEq, and_true, true_and] at he
  obtain ⟨⟨rfl, rfl, rfl⟩, rfl, rfl, rfl⟩ := he
  exact ⟨a, b, c, h1, h2⟩

set_option maxRecDepth 100000 in
set_option maxHeartbeats 1000000 in
theorem get_calls (d : Nat) (x : Val) (la : Option Addr) (ln lc : Nat) (fa : Option Addr) (fn fc : Nat) (name : ByteArray) (ok : Nat → Prop) (w : World) (h : (KV (d + 2)).R w ok x [.int .i64 x.kind, .int .i64 x.int, .string x.text, .slice la ln lc, .slice fa fn fc]) :
    Calls Tryz.prog 126 #[.agg #[.int .i64 x.kind, .int .i64 x.int, .string x.text, .slice la ln lc, .slice fa fn fc], .string name] w (FoundP (d + 1) w ok (x.get name)) := by
  have hat := at_calls d x la ln lc fa fn fc name ok
  have hf := (KV_parts h).2.2.2.2
  have H := Ap.of h
  have HF := Ap.of hf
  have HA := Ap.of hat
  clear hat h hf
  have hcs : (∃ (k : Nat) (y : Val), x.at name = (k : Int) ∧ x.get name = some y ∧ x.fields[k]? = some (name, y)) ∨ (x.at name = -1 ∧ x.get name = none) := by
    unfold Val.at Val.get
    by_cases hk : x.kind = 5
    · rw [if_pos hk, if_pos hk]
      rcases fIdx_cases x.fields name with ⟨k, y, h1, h2, h3⟩ | ⟨h1, h2⟩
      · exact .inl ⟨k, y, h1, by rw [h3]; rfl, h2⟩
      · exact .inr ⟨h1, by rw [h2]; rfl⟩
    · rw [if_neg hk, if_neg hk]; exact .inr ⟨rfl, rfl⟩
  generalize hi : x.int = i at *
  generalize ht : x.text = s at *
  generalize hkd : x.kind = kd at *
  rcases hcs with ⟨k, y, h1, h2, h3⟩ | ⟨h1, h2⟩
  · rw [h2]
    have hkn : k < fn := by
      rw [← HF.out.length]
      exact (List.getElem?_eq_some_iff.1 h3).1
    have H1 := Ap.of h1
    have H3 := Ap.of h3
    clear h1 h2 h3
    go_enter Tryz.func126, Tryz.ntmps126
    go_wp2_with fail
    refine (HA.out _ ?g1).mono ?_
    case g1 => exact Knd.below (Knd.below H.out (bel_alloc _ _)) (bel_alloc _ _)
    rintro e w1 ⟨rfl, hb⟩
    rw [H1.out]
    have t0 : decide ((k : Int) < 0) = false := by simp
    have b1 := blk_bel (blk_old (o' := .cells #[.int .i64 0, .int .i64 0, .string ⟨#[]⟩, .slice none 0 0, .slice none 0 0] 50) (blk_new (w := w) (o := .cells #[.int .i64 kd, .int .i64 i, .string s, .slice la ln lc, .slice fa fn fc] 50) rfl)) hb
    have b2 := blk_bel (blk_new (w := w.alloc (.cells #[.int .i64 kd, .int .i64 i, .string s, .slice la ln lc, .slice fa fn fc] 50)) (k := w.heap.size + 1) (o := .cells #[.int .i64 0, .int .i64 0, .string ⟨#[]⟩, .slice none 0 0, .slice none 0 0] 50) (by simp)) hb
    have hb0 := bel_step (bel_step (bel_alloc w _) (bel_alloc _ _)) hb
    obtain ⟨g2, off, nm, y', la2, xn, lc2, fa2, fn2, fc2, rfl, hx, hnm, hr, c0, c1, c2, c3, c4, c5⟩ := fld_cells (HF.out.bound.below hb0) hkn
    rw [H3.out] at hx
    injection hx with hx
    injection hx with hx1 hx2
    subst hx1 hx2
    have HR := Ap.of hr
    have HBL := Ap.of hb0
    have d1 := blk_cells b1
    have d2 := blk_cells b2
    have f2 := blk_free b2
    have l2 := blk_lt b2
    clear hr hb hb0 b1 b2
    go_wp2_with fail
    have hs := only5 w1 (w.heap.size + 1) (.int .i64 y.kind) (.int .i64 y.int) (.string y.text) (.slice la2 xn lc2) (.slice fa2 fn2 fc2)
    exact bodyPost_ret (v := .tuple #[.agg #[.int .i64 y.kind, .int .i64 y.int, .string y.text, .slice la2 xn lc2, .slice fa2 fn2 fc2], .bool true]) (by simp [results, Tryz.results126, go_sem, d2]) rfl
      ⟨y, la2, xn, lc2, fa2, fn2, fc2, rfl, rfl, (KV (d + 1)).mono (fun j hj => hj.1) (Knd.only HR.out hs (fun j hj he => by have := hj.2; omega)), bel_only HBL.out HBL.out.size hs (fun j he => by omega)⟩
  · rw [h2]
    have H1 := Ap.of h1
    clear h1 h2
    go_enter Tryz.func126, Tryz.ntmps126
    go_wp2_with fail
    refine (HA.out _ ?g1).mono ?_
    case g1 => exact Knd.below (Knd.below H.out (bel_alloc _ _)) (bel_alloc _ _)
    rintro e w1 ⟨rfl, hb⟩
    rw [H1.out]
    have b2 := blk_bel (blk_new (w := w.alloc (.cells #[.int .i64 kd, .int .i64 i, .string s, .slice la ln lc, .slice fa fn fc] 50)) (k := w.heap.size + 1) (o := .cells #[.int .i64 0, .int .i64 0, .string ⟨#[]⟩, .slice none 0 0, .slice none 0 0] 50) (by simp)) hb
    have hb0 := bel_step (bel_step (bel_alloc w _) (bel_alloc _ _)) hb
    have HBL := Ap.of hb0
    have d2 := blk_cells b2
    have f2 := blk_free b2
    have l2 := blk_lt b2
    clear hb hb0 b2
    go_wp2_with fail
    have hs := only5 w1 (w.heap.size + 1) (.int .i64 0) (.int .i64 0) (.string ⟨#[]⟩) (.slice none 0 0) (.slice none 0 0)
    exact bodyPost_ret (v := .tuple #[.agg #[.int .i64 0, .int .i64 0, .string ⟨#[]⟩, .slice none 0 0, .slice none 0 0], .bool false]) (by simp [results, Tryz.results126, go_sem, d2]) rfl
      ⟨Val.zero, none, 0, 0, none, 0, 0, rfl, rfl, KV_zero _ _ _, bel_only HBL.out HBL.out.size hs (fun j he => by omega)⟩

def Val.step (x : Val) (part : ByteArray) : Option Val := if x.kind = 4 then (placeOf x.list.length part).bind (x.list[·]?) else x.get part
def Val.find (x : Val) : List ByteArray → Option Val
  | [] => some x
  | p :: r => (x.step p).bind (·.find r)

/-- The cells of an element of a row of values. -/
theorem val_cells {d : Nat} {w : World} {ok : Nat → Prop} {A : Option Addr} {n c : Nat} {xs : List Val} (h : Row (KV (d + 1)) w ok A n c xs) {i : Nat} (hi : i < n) :
    ∃ g off x la ln lc fa fn fc, A = some ⟨g, off, none⟩ ∧ xs[i]? = some x ∧ (KV (d + 1)).R w ok x [.int .i64 x.kind, .int .i64 x.int, .string x.text, .slice la ln lc, .slice fa fn fc] ∧
      w.cell? ⟨g, off + i * 5, none⟩ = some (.int .i64 x.kind) ∧ w.cell? ⟨g, off + i * 5 + 1, none⟩ = some (.int .i64 x.int) ∧ w.cell? ⟨g, off + i * 5 + 2, none⟩ = some (.string x.text) ∧
      w.cell? ⟨g, off + i * 5 + 3, none⟩ = some (.slice la ln lc) ∧ w.cell? ⟨g, off + i * 5 + 4, none⟩ = some (.slice fa fn fc) := by
  obtain ⟨g, off, x, cs, hA, hx, ⟨la, ln, lc, fa, fn, fc, rfl, hr⟩, hc⟩ := h.elem hi
  rw [KV_sz] at hc
  exact ⟨g, off, x, la, ln, lc, fa, fn, fc, hA, hx, ⟨la, ln, lc, fa, fn, fc, rfl, hr⟩, hc 0 _ rfl, hc 1 _ rfl, hc 2 _ rfl, hc 3 _ rfl, hc 4 _ rfl⟩

set_option maxRecDepth 100000 in
set_option maxHeartbeats 1000000 in
theorem step_calls (d : Nat) (x : Val) (la : Option Addr) (ln lc : Nat) (fa : Option Addr) (fn fc : Nat) (part : ByteArray) (hp : part.size ≤ 281474976710656) (ok : Nat → Prop) (w : World) (G : FinG w) (hn : x.list.length ≤ 10) (h : (KV (d + 2)).R w ok x [.int .i64 x.kind, .int .i64 x.int, .string x.text, .slice la ln lc, .slice fa fn fc]) :
    Calls Tryz.prog 101 #[.agg #[.int .i64 x.kind, .int .i64 x.int, .string x.text, .slice la ln lc, .slice fa fn fc], .string part] w (FoundP (d + 1) w ok (x.step part)) := by
  have hl := (KV_parts h).2.2.2.1
  have hget := get_calls d x la ln lc fa fn fc part (fun j => ok j ∧ j < w.heap.size)
  have H := Ap.of ((KV (d + 2)).bound h)
  have HL := Ap.of hl
  have HGT := Ap.of hget
  have GG := Ap.of G
  have HP := Ap.of hp
  have hll := hl.length
  clear hget h G hl hp
  cases hk : decide (x.kind = 4) with
  | false =>
    have hk := of_decide_eq_false hk
    have hst : x.step part = x.get part := if_neg hk
    have hk' : (x.kind == 4) = false := by simpa using hk
    rw [hst]
    clear hst hk hll
    generalize hi : x.int = i at *
    generalize ht : x.text = s at *
    generalize hkd : x.kind = kd at *
    go_enter Tryz.func101, Tryz.ntmps101
    go_wp2_with fail
    refine (HGT.out _ ?g1).mono ?_
    case g1 => exact Knd.below (Knd.below H.out (bel_alloc _ _)) (bel_alloc _ _)
    rintro e w1 ⟨y, la2, xn, lc2, fa2, fn2, fc2, rfl, hy, hr, hb⟩
    have b2 := blk_bel (blk_new (w := w.alloc (.cells #[.int .i64 kd, .int .i64 i, .string s, .slice la ln lc, .slice fa fn fc] 50)) (k := w.heap.size + 1) (o := .cells #[.int .i64 0, .int .i64 0, .string ⟨#[]⟩, .slice none 0 0, .slice none 0 0] 50) (by simp)) hb
    have HBL := Ap.of (bel_step (bel_step (bel_alloc w _) (bel_alloc _ _)) hb)
    have HR := Ap.of hr
    have HY := Ap.of hy
    have d2 := blk_cells b2
    have f2 := blk_free b2
    have l2 := blk_lt b2
    clear hb b2 hy hr
    go_wp2_with fail
    have hs := only5 w1 (w.heap.size + 1) (.int .i64 y.kind) (.int .i64 y.int) (.string y.text) (.slice la2 xn lc2) (.slice fa2 fn2 fc2)
    exact bodyPost_ret (v := .tuple #[.agg #[.int .i64 y.kind, .int .i64 y.int, .string y.text, .slice la2 xn lc2, .slice fa2 fn2 fc2], .bool (x.get part).isSome]) (by simp [results, Tryz.results101, go_sem, d2]) rfl
      ⟨y, la2, xn, lc2, fa2, fn2, fc2, rfl, HY.out, (KV (d + 1)).mono (fun j hj => hj.1) (Knd.only HR.out hs (fun j hj he => by have := hj.2; omega)), bel_only HBL.out HBL.out.size hs (fun j he => by omega)⟩
  | true =>
    have hk := of_decide_eq_true hk
    have hst : x.step part = (placeOf ln part).bind (x.list[·]?) := by rw [← hll]; exact if_pos hk
    rw [hst, hk]
    clear hst
    rw [hll] at hn
    have hpl := fun w1 hG => place_calls la ln lc hn part HP.out w1 hG
    have HPL := Ap.of hpl
    clear hpl hk hll
    generalize hi : x.int = i at *
    generalize ht : x.text = s at *
    cases hpo : placeOf ln part with
    | none =>
      have hpi : placeI ln part = -1 := by unfold placeI; rw [hpo]
      have HPI := Ap.of hpi
      clear hpi hpo
      go_enter Tryz.func101, Tryz.ntmps101
      go_wp2_with fail
      refine (HPL.out _ ?g1).mono ?_
      case g1 => exact FinG.below (FinG.below GG.out (bel_alloc _ _)) (bel_alloc _ _)
      rintro e w1 ⟨rfl, hb⟩
      rw [HPI.out]
      have b2 := blk_bel (blk_new (w := w.alloc (.cells #[.int .i64 4, .int .i64 i, .string s, .slice la ln lc, .slice fa fn fc] 50)) (k := w.heap.size + 1) (o := .cells #[.int .i64 0, .int .i64 0, .string ⟨#[]⟩, .slice none 0 0, .slice none 0 0] 50) (by simp)) hb
      have HBL := Ap.of (bel_step (bel_step (bel_alloc w _) (bel_alloc _ _)) hb)
      have d2 := blk_cells b2
      have f2 := blk_free b2
      have l2 := blk_lt b2
      clear hb b2
      go_wp2_with fail
      have hs := only5 w1 (w.heap.size + 1) (.int .i64 0) (.int .i64 0) (.string ⟨#[]⟩) (.slice none 0 0) (.slice none 0 0)
      exact bodyPost_ret (v := .tuple #[.agg #[.int .i64 0, .int .i64 0, .string ⟨#[]⟩, .slice none 0 0, .slice none 0 0], .bool false]) (by simp [results, Tryz.results101, go_sem, d2]) rfl
        ⟨Val.zero, none, 0, 0, none, 0, 0, rfl, rfl, KV_zero _ _ _, bel_only HBL.out HBL.out.size hs (fun j he => by omega)⟩
    | some k =>
      have hpi : placeI ln part = k := by unfold placeI; rw [hpo]
      have hkn := (placeOf_some hpo).1
      have HPI := Ap.of hpi
      clear hpi hpo
      have t0 : decide ((k : Int) < 0) = false := by simp
      go_enter Tryz.func101, Tryz.ntmps101
      go_wp2_with fail
      refine (HPL.out _ ?g1).mono ?_
      case g1 => exact FinG.below (FinG.below GG.out (bel_alloc _ _)) (bel_alloc _ _)
      rintro e w1 ⟨rfl, hb⟩
      rw [HPI.out]
      have b1 := blk_bel (blk_old (o' := .cells #[.int .i64 0, .int .i64 0, .string ⟨#[]⟩, .slice none 0 0, .slice none 0 0] 50) (blk_new (w := w) (o := .cells #[.int .i64 4, .int .i64 i, .string s, .slice la ln lc, .slice fa fn fc] 50) rfl)) hb
      have b2 := blk_bel (blk_new (w := w.alloc (.cells #[.int .i64 4, .int .i64 i, .string s, .slice la ln lc, .slice fa fn fc] 50)) (k := w.heap.size + 1) (o := .cells #[.int .i64 0, .int .i64 0, .string ⟨#[]⟩, .slice none 0 0, .slice none 0 0] 50) (by simp)) hb
      have hb0 := bel_step (bel_step (bel_alloc w _) (bel_alloc _ _)) hb
      obtain ⟨g2, off, y, la2, xn, lc2, fa2, fn2, fc2, rfl, hx, hr, c1, c2, c3, c4, c5⟩ := val_cells (HL.out.bound.below hb0) hkn
      have HBL := Ap.of hb0
      have HR := Ap.of hr
      have HX := Ap.of hx
      have d1 := blk_cells b1
      have d2 := blk_cells b2
      have f2 := blk_free b2
      have l2 := blk_lt b2
      clear hb hb0 b1 b2 hx hr
      go_wp2_with fail
      have hs := only5 w1 (w.heap.size + 1) (.int .i64 y.kind) (.int .i64 y.int) (.string y.text) (.slice la2 xn lc2) (.slice fa2 fn2 fc2)
      refine bodyPost_ret (v := .tuple #[.agg #[.int .i64 y.kind, .int .i64 y.int, .string y.text, .slice la2 xn lc2, .slice fa2 fn2 fc2], .bool true]) (by simp [results, Tryz.results101, go_sem, d2]) rfl
        ⟨y, la2, xn, lc2, fa2, fn2, fc2, ?_, ?_, (KV (d + 1)).mono (fun j hj => hj.1) (Knd.only HR.out hs (fun j hj he => by have := hj.2; omega)), bel_only HBL.out HBL.out.size hs (fun j he => by omega)⟩
      · simp only [Option.bind_some, HX.out, Option.isSome_some]
      · simp only [Option.bind_some, HX.out, Option.getD_some]

/-- Texts as a kind of data. -/
def KStr : Knd ByteArray where
  sz := 1
  R _ _ x cs := cs = [.string x] ∧ x.size ≤ 281474976710656
  len := by rintro w ok x cs ⟨rfl, _⟩; rfl
  one := by rintro w ok x cs ⟨rfl, _⟩ u hu; rw [List.mem_singleton.1 hu]; rfl
  mono := fun _ h => h
  bound := fun h => h
  move := fun _ h => h
theorem str_cells {w : World} {ok : Nat → Prop} {A : Option Addr} {n c : Nat} {l : List ByteArray} (h : Row KStr w ok A n c l) {i : Nat} (hi : i < n) : ∃ g off s, A = some ⟨g, off, none⟩ ∧ l[i]? = some s ∧ s.size ≤ 281474976710656 ∧ w.cell? ⟨g, off + i, none⟩ = some (.string s) := by
  obtain ⟨g, off, s, cs, hA, hx, ⟨rfl, hs⟩, hc⟩ := h.elem hi
  exact ⟨g, off, s, hA, hx, hs, by have := hc 0 _ rfl; rwa [show off + i * KStr.sz + 0 = off + i by show off + i * 1 + 0 = _; omega] at this⟩

theorem blk_set5 {w : World} {g : Nat} {a0 a1 a2 a3 a4 : Value} {t : TypeId} (h : w.heap[g]? = some (.cells #[a0, a1, a2, a3, a4] t (0, 0))) (v0 v1 v2 v3 v4 : Value) :
    (((((w.setCell ⟨g, 0, none⟩ v0).setCell ⟨g, 1, none⟩ v1).setCell ⟨g, 2, none⟩ v2).setCell ⟨g, 3, none⟩ v3).setCell ⟨g, 4, none⟩ v4).heap[g]? = some (.cells #[v0, v1, v2, v3, v4] t (0, 0)) := by
  have := blk_set (blk_set (blk_set (blk_set (blk_set h 0 v0) 1 v1) 2 v2) 3 v3) 4 v4
  simpa using this
/-- A value without long lists, and with no more fields than so many at once. -/
def FewD (N : Nat) : Nat → Val → Prop
  | 0, _ => False
  | d + 1, x => x.list.length ≤ 10 ∧ x.fields.length ≤ N ∧ (∀ y ∈ x.list, FewD N d y) ∧ ∀ f ∈ x.fields, FewD N d f.2
def Few (N : Nat) (x : Val) : Prop := ∃ m, FewD N m x
theorem FewD.of_good : ∀ (d : Nat) (x : Val), GoodV d x → FewD 4 d x
  | 0, _, h => h
  | d + 1, x, h => ⟨by have := h.2.2.2.2.1; omega, by have := h.2.2.2.2.2.2.1.length_le; rw [List.length_map] at this; exact this, fun y hy => FewD.of_good d y (h.2.2.2.2.2.1 y hy), fun f hf => FewD.of_good d f.2 (h.2.2.2.2.2.2.2.1 f hf)⟩
theorem Few.of_good {d : Nat} {x : Val} (h : GoodV d x) : Few 4 x := ⟨d, FewD.of_good d x h⟩
theorem FewD.mono {N N' : Nat} (hN : N ≤ N') : ∀ (d d' : Nat) (x : Val), d ≤ d' → FewD N d x → FewD N' d' x
  | 0, _, _, _, h => h.elim
  | _ + 1, 0, _, hd, _ => by omega
  | d + 1, d' + 1, _, hd, h => ⟨h.1, Nat.le_trans h.2.1 hN, fun y hy => FewD.mono hN d d' y (by omega) (h.2.2.1 y hy), fun f hf => FewD.mono hN d d' f.2 (by omega) (h.2.2.2 f hf)⟩
theorem Few.mono {N N' : Nat} {x : Val} (hN : N ≤ N') (h : Few N x) : Few N' x := by obtain ⟨m, h⟩ := h; exact ⟨m, FewD.mono hN m m x (Nat.le_refl _) h⟩
theorem Few.len {N : Nat} {x : Val} (h : Few N x) : x.list.length ≤ 10 := by
  obtain ⟨m, h⟩ := h
  cases m with
  | zero => exact h.elim
  | succ m => exact h.1
theorem Few.flen {N : Nat} {x : Val} (h : Few N x) : x.fields.length ≤ N := by
  obtain ⟨m, h⟩ := h
  cases m with
  | zero => exact h.elim
  | succ m => exact h.2.1
theorem Few.step {N : Nat} {x y : Val} {p : ByteArray} (h : Few N x) (hs : x.step p = some y) : Few N y := by
  obtain ⟨m, h⟩ := h
  cases m with
  | zero => exact h.elim
  | succ m =>
    unfold Val.step at hs
    split at hs
    · obtain ⟨k, _, hk⟩ := Option.bind_eq_some_iff.1 hs
      exact ⟨m, h.2.2.1 y (List.mem_of_getElem? hk)⟩
    · unfold Val.get at hs
      split at hs
      · obtain ⟨f, hf, rfl⟩ := Option.map_eq_some_iff.1 hs
        exact ⟨m, h.2.2.2 f (List.mem_of_find?_eq_some hf)⟩
      · cases hs

set_option maxRecDepth 100000 in
set_option maxHeartbeats 2000000 in
theorem find_calls (d : Nat) (x : Val) (la : Option Addr) (ln lc : Nat) (fa : Option Addr) (fn fc : Nat) (A : Option Addr) (n c : Nat) (l : List ByteArray) (ok : Nat → Prop) (w : World) (G : FinG w) {N : Nat} (hF : Few N x) (hl : Row KStr w ok A n c l) (h : (KV (d + 2)).R w ok x [.int .i64 x.kind, .int .i64 x.int, .string x.text, .slice la ln lc, .slice fa fn fc]) :
    Calls Tryz.prog 72 #[.agg #[.int .i64 x.kind, .int .i64 x.int, .string x.text, .slice la ln lc, .slice fa fn fc], .slice A n c] w (FoundP (d + 2) w ok (x.find l)) := by
  have H := Ap.of ((KV (d + 2)).bound h)
  have HL := Ap.of hl.bound
  have GG := Ap.of G
  have HF := Ap.of hF
  have hll := hl.length
  have hcap := hl.cap
  clear h G hl hF
  generalize hi : x.int = i0 at *
  generalize ht : x.text = s0 at *
  generalize hkd : x.kind = k0 at *
  go_enter Tryz.func72, Tryz.ntmps72
  go_wp2_with fail
  go_loopw [12] (fun vi wr => ∃ (k : Nat) (y : Val) (la : Option Addr) (ln lc : Nat) (fa : Option Addr) (fn fc : Nat), k ≤ n ∧ vi = .int .i64 k ∧ Ap (x.find l = y.find (l.drop k)) ∧ Ap (Few N y) ∧
    Ap (wr.heap[w.heap.size]? = some (.cells #[.int .i64 y.kind, .int .i64 y.int, .string y.text, .slice la ln lc, .slice fa fn fc] 50 (0, 0))) ∧
    Ap (wr.heap[w.heap.size + 1]? = some (.cells #[.int .i64 0, .int .i64 0, .string ⟨#[]⟩, .slice none 0 0, .slice none 0 0] 50 (0, 0))) ∧
    Ap ((KV (d + 2)).R wr (fun j => ok j ∧ j < w.heap.size) y [.int .i64 y.kind, .int .i64 y.int, .string y.text, .slice la ln lc, .slice fa fn fc]) ∧ Ap (Below w.heap.size w wr)) (fun vi _ => n - (intOf vi).toNat)
  case atStart =>
    subst hi ht hkd
    exact ⟨0, x, la, ln, lc, fa, fn, fc, Nat.zero_le _, rfl, Ap.of rfl, HF, Ap.of (blk_old (blk_new rfl)), Ap.of (blk_new (by simp)), Ap.of (Knd.below (Knd.below H.out (bel_alloc _ _)) (bel_alloc _ _)), Ap.of (bel_step (bel_alloc _ _) (bel_alloc _ _))⟩
  case round =>
    obtain ⟨k, y, ya, yn, yc, za, zn, zc, hk, rfl, HX, FY, B0, B1, RY, BL⟩ := hrel
    clear H hi ht hkd
    have c0 := blk_cells B0.out
    have f0 := blk_free B0.out
    have l0 := blk_lt B0.out
    have c1 := blk_cells B1.out
    have f1 := blk_free B1.out
    have l1 := blk_lt B1.out
    by_cases hlt : k < n
    · obtain ⟨g2, off, p, rfl, hp, hps, hpc⟩ := str_cells (HL.out.below BL.out) hlt
      have hfd : x.find l = (y.step p).bind (·.find (l.drop (k + 1))) := by
        rw [HX.out]
        have hkl : k < l.length := by omega
        rw [List.drop_eq_getElem_cons hkl]
        rw [List.getElem?_eq_getElem hkl] at hp
        injection hp with hp
        rw [hp]
        rfl
      have HFD := Ap.of hfd
      have hcall := step_calls d y ya yn yc za zn zc p hps (fun j => ok j ∧ j < w.heap.size) wr (FinG.below GG.out BL.out) FY.out.len RY.out
      have hfew : ∀ z, y.step p = some z → Few N z := fun z hz => FY.out.step hz
      have HFW := Ap.of hfew
      clear hfd hfew hp hps HX RY
      generalize y.step p = o at *
      have HC := Ap.of hcall
      clear hcall
      generalize y.int = i1 at *
      generalize y.text = s1 at *
      generalize y.kind = k1 at *
      cases o with
      | none =>
        go_wp2_with fail
        refine HC.out.mono ?_
        rintro e w3 ⟨z, la2, xn, lc2, fa2, fn2, fc2, rfl, hz, hr, hb⟩
        obtain rfl : z = Val.zero := hz
        have b1 := blk_bel B1.out hb
        have d1 := blk_cells b1
        have g1 := blk_free b1
        have m1 := blk_lt b1
        have HBL := Ap.of (bel_stepB BL.out BL.out.size hb)
        clear hr hb b1 hpc c0 f0 c1 f1 l0 l1
        go_wp2_with fail
        rw [HFD.out]
        have hs := (only5 w3 (w.heap.size + 1) (.int .i64 0) (.int .i64 0) (.string ⟨#[]⟩) (.slice none 0 0) (.slice none 0 0)).alloc (.cells #[.int .i64 Val.zero.kind, .int .i64 Val.zero.int, .string Val.zero.text, .slice la2 xn lc2, .slice fa2 fn2 fc2] 50)
        exact bodyPost_ret (v := .tuple #[.agg #[.int .i64 0, .int .i64 0, .string ⟨#[]⟩, .slice none 0 0, .slice none 0 0], .bool false]) (by simp [results, Tryz.results72, go_sem, d1, m1]) rfl
          ⟨Val.zero, none, 0, 0, none, 0, 0, rfl, rfl, KV_zero _ _ _, bel_only HBL.out HBL.out.size hs (fun j he => by omega)⟩
      | some y2 =>
        go_wp2_with fail
        refine HC.out.mono ?_
        rintro e w3 ⟨z, la2, xn, lc2, fa2, fn2, fc2, rfl, hz, hr, hb⟩
        obtain rfl : z = y2 := hz
        have b0 := blk_bel B0.out hb
        have b1 := blk_bel B1.out hb
        have d0 := blk_cells b0
        have g0 := blk_free b0
        have d1 := blk_cells b1
        have g1 := blk_free b1
        have m0 := blk_lt b0
        have m1 := blk_lt b1
        have HBL := Ap.of (bel_stepB BL.out BL.out.size hb)
        have HR := Ap.of hr
        have HB0 := Ap.of b0
        have HB1 := Ap.of b1
        clear hr hb b0 b1 hpc c0 f0 c1 f1 l0 l1
        go_wp2_with fail
        go_roundw
        case rel =>
          have hs0 := only5 w3 w.heap.size (.int .i64 z.kind) (.int .i64 z.int) (.string z.text) (.slice la2 xn lc2) (.slice fa2 fn2 fc2)
          have hs := hs0.alloc (.cells #[.int .i64 z.kind, .int .i64 z.int, .string z.text, .slice la2 xn lc2, .slice fa2 fn2 fc2] 50)
          exact ⟨k + 1, z, la2, xn, lc2, fa2, fn2, fc2, by omega, by go_num, Ap.of HFD.out, Ap.of (HFW.out z rfl), Ap.of (blk_old (blk_set5 HB0.out _ _ _ _ _)), Ap.of (blk_only HB1.out hs (by omega)),
            Ap.of (KV_deeper _ _ _ _ _ (Knd.only HR.out hs (fun j hj he => by have := hj.2; omega))), Ap.of (bel_only HBL.out HBL.out.size hs (fun j he => by omega))⟩
        case measure => simp [intOf]; omega
    · obtain rfl : k = n := by omega
      have hfd : x.find l = some y := by
        rw [HX.out, ← hll, List.drop_length]; rfl
      have HFD := Ap.of hfd
      clear hfd HX
      go_wp2_with fail
      rw [HFD.out]
      have hs := only5 wr (w.heap.size + 1) (.int .i64 y.kind) (.int .i64 y.int) (.string y.text) (.slice ya yn yc) (.slice za zn zc)
      exact bodyPost_ret (v := .tuple #[.agg #[.int .i64 y.kind, .int .i64 y.int, .string y.text, .slice ya yn yc, .slice za zn zc], .bool true]) (by simp [results, Tryz.results72, go_sem, c1]) rfl
        ⟨y, ya, yn, yc, za, zn, zc, rfl, rfl, (KV (d + 2)).mono (fun j hj => hj.1) (Knd.only RY.out hs (fun j hj he => by have := hj.2; omega)), bel_only BL.out BL.out.size hs (fun j he => by omega)⟩
end Go.Proofs.YtecfaaeaipjlaaaGreatDoor
