/- FilterTests' walk. -/
import Derived.Test.YtlomieopppndeaaGreatDoorFilAwake
import Derived.Test.YtlomieopppndeaaGreatDoorDoc03
import Derived.Test.YtlomieopppndeaaGreatDoorSmall
namespace Go.Proofs.YtlomieopppndeaaGreatDoor
open Go.RowKit

/-- What the statements on filters read, with the words that values have. -/
structure FiG (w : World) : Prop where
  aw : AwG w
  laid : Laid w
theorem FiG.below {w w' : World} (h : FiG w) (hb : Below w.heap.size w w') : FiG w' := ⟨h.aw.below hb, h.laid.below hb⟩

theorem names_ok : ∀ s ∈ namesOf, pathOk s = true ∧ partsOf s = [s] ∧ s.size = 1 ∧ ∀ k, k < 10 → s ≠ digitB k := by
  intro s hs
  simp only [namesOf, List.mem_cons, List.not_mem_nil, or_false] at hs
  rcases hs with rfl | rfl | rfl | rfl <;> decide +kernel
theorem placez_no {n : Nat} {part : ByteArray} (h : ∀ k, k < n → part ≠ digitB k) : placeOf n part = none := by
  unfold placeOf
  rw [List.find?_eq_none]
  intro k hk
  simpa using h k (by simpa using hk)
theorem found_name {s : ByteArray} (hs : s ∈ namesOf) (x : Val) (hx : x.list.length ≤ 10) : foundV x s = x.get s := by
  obtain ⟨h1, h2, _, h4⟩ := names_ok s hs
  unfold foundV
  rw [if_pos h1, h2]
  show (x.step s).bind (·.find []) = _
  have : x.step s = x.get s := by
    unfold Val.step
    by_cases h : x.kind = 4
    · rw [if_pos h]
      unfold Val.get
      rw [if_neg (by omega), placez_no (fun k hk => h4 k (by omega))]
      rfl
    · rw [if_neg h]
  rw [this]
  cases x.get s <;> rfl
/-- A condition of a value's own field: is it met? -/
def isQ (s : ByteArray) (v doc : Val) (op : Int) : Bool := condD 4 (.mk op s v []) doc
theorem isQ_none {s : ByteArray} {v doc : Val} (h : foundV doc s = none) (op : Int) (h9 : op ≠ 9) : isQ s v doc op = (op == 3) := by
  show condK 4 (.mk op s v []) (foundV doc s) = _
  rw [h]
  exact if_neg h9
theorem isQ_some {s : ByteArray} {v doc x : Val} (h : foundV doc s = some x) (op : Int) (h9 : op ≠ 9) : isQ s v doc op = oneK op (cmpD 4 x v) (v.list.any (fun y => cmpD 4 x y == 0)) := by
  show condK 4 (.mk op s v []) (foundV doc s) = _
  rw [h]
  exact if_neg h9
theorem isQ_nine (s : ByteArray) (u doc : Val) : isQ s u doc 9 = ((foundV doc s).isSome == (u.int == 1)) := rfl

/-- Match of one condition. -/
theorem leaf_calls (op : Int) (h2 : 2 ≤ op) (h9 : op ≤ 9223372036854775807) (s : ByteArray) (hs : s.size ≤ 1000) (u doc : Val) (la : Option Addr) (ln lc : Nat) (fa : Option Addr) (fn fc : Nat) (la2 : Option Addr) (ln2 lc2 : Nat) (fa2 : Option Addr) (fn2 fc2 : Nat) (N : Nat) (W : World) (hF : Few N doc) (G : AwG W) (hu : (KV 4).R W (fun _ => True) u [.int .i64 u.kind, .int .i64 u.int, .string u.text, .slice la ln lc, .slice fa fn fc]) (hx : (KV 4).R W (fun _ => True) doc [.int .i64 doc.kind, .int .i64 doc.int, .string doc.text, .slice la2 ln2 lc2, .slice fa2 fn2 fc2]) :
    Calls Tryz.prog 25 #[.agg #[.int .i64 op, .string s, .int .i64 u.kind, .int .i64 u.int, .string u.text, .slice la ln lc, .slice fa fn fc, .slice none 0 0], .agg #[.int .i64 doc.kind, .int .i64 doc.int, .string doc.text, .slice la2 ln2 lc2, .slice fa2 fn2 fc2]] W fun e w' => e = .returned (.bool (isQ s u doc op)) ∧ Below W.heap.size W w' := by
  have h := match_calls 2 1 (.mk op s u []) la ln lc fa fn fc none 0 0 doc la2 ln2 lc2 fa2 fn2 fc2 N W hF ⟨by show s.size < 4294967281; omega, fun s h => by cases h⟩ G.fil.par G.fin (KF_mk (f := .mk op s u []) (show inI64 op from ⟨by omega, h9⟩) (by show s.size ≤ maxLen; unfold maxLen; omega) hu (Row.nil _ _ _)) hx
  have e : matchD 4 1 (.mk op s u []) doc = isQ s u doc op := by
    show (if op = 0 then _ else if op = 1 then _ else condD 4 (.mk op s u []) doc) = _
    rw [if_neg (by omega), if_neg (by omega)]; rfl
  rw [e] at h
  exact h
set_option maxRecDepth 100000 in
set_option maxHeartbeats 4000000 in
theorem is1_calls (op : Int) (h2 : 2 ≤ op) (h9 : op ≤ 9) (s : ByteArray) (hs : s.size ≤ 1000) (v doc : Val) (la : Option Addr) (ln lc : Nat) (fa : Option Addr) (fn fc : Nat) (la2 : Option Addr) (ln2 lc2 : Nat) (fa2 : Option Addr) (fn2 fc2 : Nat) (N g9 g7 g8 : Nat) (W : World) (hF : Few N doc) (G : AwG W) (hv : (KV 4).R W (fun _ => True) v [.int .i64 v.kind, .int .i64 v.int, .string v.text, .slice la ln lc, .slice fa fn fc]) (hx : (KV 4).R W (fun _ => True) doc [.int .i64 doc.kind, .int .i64 doc.int, .string doc.text, .slice la2 ln2 lc2, .slice fa2 fn2 fc2])
    (b9 : W.heap[g9]? = some (.cells #[.string s] 9 (0, 0))) (b7 : W.heap[g7]? = some (.cells #[.int .i64 v.kind, .int .i64 v.int, .string v.text, .slice la ln lc, .slice fa fn fc] 28 (0, 0))) (b8 : W.heap[g8]? = some (.cells #[.int .i64 doc.kind, .int .i64 doc.int, .string doc.text, .slice la2 ln2 lc2, .slice fa2 fn2 fc2] 28 (0, 0))) :
    Calls Tryz.prog 34 #[.int .i64 op, .pointer (some ⟨g9, 0, none⟩), .pointer (some ⟨g7, 0, none⟩), .pointer (some ⟨g8, 0, none⟩)] W fun e w' => e = .returned (.bool (isQ s v doc op)) ∧ Below W.heap.size W w' := by
  have HL := Ap.of (leaf_calls op h2 (by omega) s hs v doc la ln lc fa fn fc la2 ln2 lc2 fa2 fn2 fc2 N W hF G hv hx)
  have c9 := blk_cells b9
  have l9 := blk_lt b9
  have c7 := blk_cells b7
  have l7 := blk_lt b7
  have c8 := blk_cells b8
  have l8 := blk_lt b8
  clear hF G hv hx b9 b7 b8 hs h2 h9
  generalize isQ s v doc op = q at *
  go_enter Tryz.func34, Tryz.ntmps34
  go_wp2_with fail
  refine HL.out.mono ?_
  rintro e w1 ⟨rfl, hb⟩
  go_wp2_with fail
  go_ret
  exact ⟨rfl, hb⟩

def cntQ (q : Int → Bool) : Nat → Int
  | 0 => 0
  | 1 => (if q 2 then 1 else 0)
  | 2 => (if q 2 then 1 else 0) + (if q 4 then 1 else 0)
  | _ + 3 => (if q 2 then 1 else 0) + (if q 4 then 1 else 0) + (if q 6 then 1 else 0)

set_option maxRecDepth 100000 in
set_option maxHeartbeats 4000000 in
theorem tests_law_calls (c : Int) (hc : 0 ≤ c ∧ c ≤ 255) (A1 : Option Addr) (n1 c1 : Nat) (at_ : Int) (ha : 0 ≤ at_ ∧ at_ ≤ 255) (w : World) (b1 : Bs w (fun k => k < w.heap.size) A1 n1 c1) (G : FiG w) :
    Calls Tryz.prog 8 #[.int .u8 c, .slice A1 n1 c1, .int .u8 at_] w fun e w' => e = .returned (.bool true) ∧ Below w.heap.size w w' := by
  have GG := Ap.of G
  have B1 := Ap.of b1
  obtain ⟨hc0, hc1⟩ := hc
  obtain ⟨ha0, ha1⟩ := ha
  clear G b1
  go_enter Tryz.func8, Tryz.ntmps8
  go_wp2_with fail
  refine (fawake_calls w GG.out.aw).mono ?_
  rintro e w1 ⟨rfl, hb⟩
  have HB1 := Ap.of hb
  have G1 := Ap.of (GG.out.below hb)
  clear hb
  go_wp2_with fail
  refine (small_calls c hc0 hc1 w1 G1.out.laid).mono ?_
  rintro e w2 ⟨v, la, ln, lc, fa, fn, fc, rfl, hv, hgv, hb⟩
  have HV := Ap.of hv
  have HB2 := Ap.of (bel_step HB1.out hb)
  have G2 := Ap.of (G1.out.below hb)
  clear hv hgv hb
  go_wp2_with fail
  refine (doc_calls A1 n1 c1 w2 _ (fun k hk => Nat.lt_of_lt_of_le hk HB2.out.size) G2.out.laid (B1.out.below HB2.out)).mono ?_
  rintro e w3 ⟨doc, la2, ln2, lc2, fa2, fn2, fc2, rfl, hd, hgd, hb⟩
  have HV3 := Ap.of ((KV 4).mono (ok' := fun _ => True) (fun _ _ => trivial) (Knd.below HV.out hb))
  have HD3 := Ap.of ((KV 4).mono (ok' := fun _ => True) (fun _ _ => trivial) hd)
  have HGD := Ap.of hgd
  have HB3 := Ap.of (bel_step HB2.out hb)
  have G3 := Ap.of (G2.out.below hb)
  clear hd hgd hb HV
  obtain ⟨s, hs⟩ : ∃ s, namesOf[(at_ % 4).toNat]? = some s := ⟨_, List.getElem?_eq_getElem (by have : namesOf.length = 4 := rfl; omega)⟩
  have hcell : ((((w3.alloc (.cells #[.int .i64 v.kind, .int .i64 v.int, .string v.text, .slice la ln lc, .slice fa fn fc] 28)).alloc (.cells #[.int .i64 doc.kind, .int .i64 doc.int, .string doc.text, .slice la2 ln2 lc2, .slice fa2 fn2 fc2] 28)).alloc (.cells #[.string ⟨#[97]⟩, .string ⟨#[98]⟩, .string ⟨#[99]⟩, .string ⟨#[110]⟩] 9))).cell? ⟨w3.heap.size + 1 + 1, (at_ % 4).toNat, none⟩ = some (.string s) := by
    rw [blk_cells (blk_new (by simp))]
    show (namesOf.map Value.string).toArray[(at_ % 4).toNat]? = _
    rw [List.getElem?_toArray, List.getElem?_map, hs]; rfl
  have hsm := List.mem_of_getElem? hs
  have r0 : 0 ≤ at_ % 4 := by omega
  have r1 : at_ % 4 < 4 := by omega
  have HSM := Ap.of hsm
  have HFD := Ap.of (found_name hsm doc (Few.len (Few.of_good HGD.out)))
  clear hs hsm
  go_wp2_with fail
  have hb4 := bel_step (bel_step (bel_step (bel_alloc w3 (.cells #[.int .i64 v.kind, .int .i64 v.int, .string v.text, .slice la ln lc, .slice fa fn fc] 28)) (bel_alloc _ (.cells #[.int .i64 doc.kind, .int .i64 doc.int, .string doc.text, .slice la2 ln2 lc2, .slice fa2 fn2 fc2] 28))) (bel_alloc _ (.cells #[.string ⟨#[97]⟩, .string ⟨#[98]⟩, .string ⟨#[99]⟩, .string ⟨#[110]⟩] 9))) (bel_alloc _ (.cells #[.string s] 9))
  have b7 := blk_old (o' := .cells #[.string s] 9) (blk_old (o' := .cells #[.string ⟨#[97]⟩, .string ⟨#[98]⟩, .string ⟨#[99]⟩, .string ⟨#[110]⟩] 9) (blk_old (o' := .cells #[.int .i64 doc.kind, .int .i64 doc.int, .string doc.text, .slice la2 ln2 lc2, .slice fa2 fn2 fc2] 28) (blk_new (w := w3) (k := w3.heap.size) (o := .cells #[.int .i64 v.kind, .int .i64 v.int, .string v.text, .slice la ln lc, .slice fa fn fc] 28) rfl)))
  have b8 := blk_old (o' := .cells #[.string s] 9) (blk_old (o' := .cells #[.string ⟨#[97]⟩, .string ⟨#[98]⟩, .string ⟨#[99]⟩, .string ⟨#[110]⟩] 9) (blk_new (w := w3.alloc (.cells #[.int .i64 v.kind, .int .i64 v.int, .string v.text, .slice la ln lc, .slice fa fn fc] 28)) (k := w3.heap.size + 1) (o := .cells #[.int .i64 doc.kind, .int .i64 doc.int, .string doc.text, .slice la2 ln2 lc2, .slice fa2 fn2 fc2] 28) (by simp)))
  have b9 := blk_new (w := ((w3.alloc (.cells #[.int .i64 v.kind, .int .i64 v.int, .string v.text, .slice la ln lc, .slice fa fn fc] 28)).alloc (.cells #[.int .i64 doc.kind, .int .i64 doc.int, .string doc.text, .slice la2 ln2 lc2, .slice fa2 fn2 fc2] 28)).alloc (.cells #[.string ⟨#[97]⟩, .string ⟨#[98]⟩, .string ⟨#[99]⟩, .string ⟨#[110]⟩] 9)) (k := w3.heap.size + 1 + 1 + 1) (o := .cells #[.string s] 9) (by simp)
  clear hcell
  generalize (((w3.alloc (.cells #[.int .i64 v.kind, .int .i64 v.int, .string v.text, .slice la ln lc, .slice fa fn fc] 28)).alloc (.cells #[.int .i64 doc.kind, .int .i64 doc.int, .string doc.text, .slice la2 ln2 lc2, .slice fa2 fn2 fc2] 28)).alloc (.cells #[.string ⟨#[97]⟩, .string ⟨#[98]⟩, .string ⟨#[99]⟩, .string ⟨#[110]⟩] 9)).alloc (.cells #[.string s] 9) = Wb at hb4 b7 b8 b9 ⊢
  have HB4 := Ap.of hb4
  have HBK := Ap.of (And.intro b7 (And.intro b8 b9))
  have HBB := Ap.of (bel_step HB3.out hb4)
  have GB := Ap.of (G3.out.below hb4)
  have hsz : s.size ≤ 1000 := by have := (names_ok s HSM.out).2.2.1; omega
  have HF4 := Ap.of (Few.of_good HGD.out)
  have hcl : ∀ (op : Int) (W : World), 2 ≤ op → op ≤ 9 → Below Wb.heap.size Wb W → Calls Tryz.prog 34 #[.int .i64 op, .pointer (some ⟨w3.heap.size + 1 + 1 + 1, 0, none⟩), .pointer (some ⟨w3.heap.size, 0, none⟩), .pointer (some ⟨w3.heap.size + 1, 0, none⟩)] W fun e w' => e = .returned (.bool (isQ s v doc op)) ∧ Below W.heap.size W w' := fun op W h2 h9 hW =>
    is1_calls op h2 h9 s hsz v doc la ln lc fa fn fc la2 ln2 lc2 fa2 fn2 fc2 4 _ _ _ W HF4.out (GB.out.below hW).aw (Knd.below HV3.out (bel_step HB4.out hW)) (Knd.below HD3.out (bel_step HB4.out hW)) (blk_bel HBK.out.2.2 hW) (blk_bel HBK.out.1 hW) (blk_bel HBK.out.2.1 hW)
  have hex : ∀ (i : Int) (W : World), 0 ≤ i → i ≤ 1 → Below Wb.heap.size Wb W → Calls Tryz.prog 25 #[.agg #[.int .i64 9, .string s, .int .i64 1, .int .i64 i, .string ⟨#[]⟩, .slice none 0 0, .slice none 0 0, .slice none 0 0], .agg #[.int .i64 doc.kind, .int .i64 doc.int, .string doc.text, .slice la2 ln2 lc2, .slice fa2 fn2 fc2]] W fun e w' => e = .returned (.bool ((doc.get s).isSome == (i == 1))) ∧ Below W.heap.size W w' := fun i W h0 h1 hW => by
    have := leaf_calls 9 (by decide) (by decide) s hsz (.mk 1 i ⟨#[]⟩ [] []) doc none 0 0 none 0 0 la2 ln2 lc2 fa2 fn2 fc2 4 W HF4.out (GB.out.below hW).aw (flat_R 3 _ _ 1 i _ (inI64_small (by decide) (by decide)) (inI64_small h0 (by omega)) empty_small) (Knd.below HD3.out (bel_step HB4.out hW))
    rw [isQ_nine, HFD.out] at this
    exact this
  have hget := fun W (hW : Below Wb.heap.size Wb W) => get_calls 2 doc la2 ln2 lc2 fa2 fn2 fc2 s (fun _ => True) W (Knd.below HD3.out (bel_step HB4.out hW))
  have HCL := Ap.of hcl
  have HEX := Ap.of hex
  have HGET := Ap.of hget
  -- what the conditions answer
  have hcase : ((doc.get s).isSome = false ∧ isQ s v doc 2 = false ∧ isQ s v doc 3 = true ∧ isQ s v doc 4 = false ∧ isQ s v doc 5 = false ∧ isQ s v doc 6 = false ∧ isQ s v doc 7 = false) ∨
      ((doc.get s).isSome = true ∧ ((isQ s v doc 2 = false ∧ isQ s v doc 3 = true ∧ isQ s v doc 4 = false ∧ isQ s v doc 5 = false ∧ isQ s v doc 6 = true ∧ isQ s v doc 7 = true) ∨ (isQ s v doc 2 = true ∧ isQ s v doc 3 = false ∧ isQ s v doc 4 = false ∧ isQ s v doc 5 = true ∧ isQ s v doc 6 = false ∧ isQ s v doc 7 = true) ∨
        (isQ s v doc 2 = false ∧ isQ s v doc 3 = true ∧ isQ s v doc 4 = true ∧ isQ s v doc 5 = true ∧ isQ s v doc 6 = false ∧ isQ s v doc 7 = false))) := by
    cases hg : doc.get s with
    | none =>
      have hn : foundV doc s = none := HFD.out.trans hg
      exact .inl ⟨rfl, isQ_none hn 2 (by decide), isQ_none hn 3 (by decide), isQ_none hn 4 (by decide), isQ_none hn 5 (by decide), isQ_none hn 6 (by decide), isQ_none hn 7 (by decide)⟩
    | some x =>
      have hn : foundV doc s = some x := HFD.out.trans hg
      refine .inr ⟨rfl, ?_⟩
      rw [isQ_some hn 2 (by decide), isQ_some hn 3 (by decide), isQ_some hn 4 (by decide), isQ_some hn 5 (by decide), isQ_some hn 6 (by decide), isQ_some hn 7 (by decide)]
      generalize cmpD 4 x v = k
      generalize v.list.any (fun y => cmpD 4 x y == 0) = b
      rcases Int.lt_trichotomy k 0 with h | h | h
      · refine .inl ⟨?_, ?_, ?_, ?_, ?_, ?_⟩ <;> simp [oneK] <;> omega
      · refine .inr (.inl ⟨?_, ?_, ?_, ?_, ?_, ?_⟩) <;> simp [oneK] <;> omega
      · refine .inr (.inr ⟨?_, ?_, ?_, ?_, ?_, ?_⟩) <;> simp [oneK] <;> omega
  have HBW0 := Ap.of (Below.refl Wb.heap.size Wb)
  have d8 := blk_cells b8
  have l8 := blk_lt b8
  have d9 := blk_cells b9
  have l9 := blk_lt b9
  clear hb4 b7 b8 b9 hcl hex hget hsz HV3 HD3 HSM
  generalize isQ s v doc = q at *
  generalize doc.get s = og at *
  rcases hcase with ⟨ho, hq2, hq3, hq4, hq5, hq6, hq7⟩ | ⟨ho, hq⟩
  · have hex2 := HEX.out
    rw [ho] at hex2
    have HEX := Ap.of hex2
    clear hex2
    refine (HEX.out 1 Wb (by decide) (by decide) HBW0.out).mono ?_
    rintro e u1 ⟨rfl, hb⟩
    have HBW1 := Ap.of hb
    have b8 := blk_bel HBK.out.2.1 hb
    have b9 := blk_bel HBK.out.2.2 hb
    have d8 := blk_cells b8
    have l8 := blk_lt b8
    have d9 := blk_cells b9
    have l9 := blk_lt b9
    clear hb b8 b9
    go_wp2_with fail
    refine (HEX.out 0 u1 (by decide) (by decide) HBW1.out).mono ?_
    rintro e u2 ⟨rfl, hb⟩
    have HBW2 := Ap.of (bel_step HBW1.out hb)
    have b8 := blk_bel HBK.out.2.1 HBW2.out
    have b9 := blk_bel HBK.out.2.2 HBW2.out
    have d8 := blk_cells b8
    have l8 := blk_lt b8
    have d9 := blk_cells b9
    have l9 := blk_lt b9
    clear hb b8 b9
    go_wp2_with fail
    refine (HGET.out u2 HBW2.out).mono ?_
    rintro e u3 ⟨y, l5, m5, c5, g5, f5, h5, rfl, hy, hr, hb⟩
    have HBW3 := Ap.of (bel_step (bel_step HBW2.out hb) (bel_alloc _ (.cells #[.int .i64 y.kind, .int .i64 y.int, .string y.text, .slice l5 m5 c5, .slice g5 f5 h5] 28)))
    clear hy hr hb d8 l8 d9 l9
    go_wp2_with fail
    have hC := HCL.out 2 _ (by decide) (by decide) HBW3.out
    rw [hq2] at hC
    refine hC.mono ?_
    rintro e u4 ⟨rfl, hb⟩
    have HBW4 := Ap.of (bel_step HBW3.out hb)
    clear hb hC
    go_wp2_with fail
    have hC := HCL.out 3 _ (by decide) (by decide) HBW4.out
    rw [hq3] at hC
    refine hC.mono ?_
    rintro e u5 ⟨rfl, hb⟩
    have HBW5 := Ap.of (bel_step HBW4.out hb)
    clear hb hC
    go_wp2_with fail
    have hC := HCL.out 4 _ (by decide) (by decide) HBW5.out
    rw [hq4] at hC
    refine hC.mono ?_
    rintro e u6 ⟨rfl, hb⟩
    have HBW6 := Ap.of (bel_step HBW5.out hb)
    clear hb hC
    go_wp2_with fail
    have hC := HCL.out 5 _ (by decide) (by decide) HBW6.out
    rw [hq5] at hC
    refine hC.mono ?_
    rintro e u7 ⟨rfl, hb⟩
    have HBW7 := Ap.of (bel_step HBW6.out hb)
    clear hb hC
    go_wp2_with fail
    have hC := HCL.out 6 _ (by decide) (by decide) HBW7.out
    rw [hq6] at hC
    refine hC.mono ?_
    rintro e u8 ⟨rfl, hb⟩
    have HBW8 := Ap.of (bel_step HBW7.out hb)
    clear hb hC
    go_wp2_with fail
    have hC := HCL.out 7 _ (by decide) (by decide) HBW8.out
    rw [hq7] at hC
    refine hC.mono ?_
    rintro e u9 ⟨rfl, hb⟩
    have HBW9 := Ap.of (bel_step HBW8.out hb)
    clear hb hC
    go_wp2_with fail
    have hC := HCL.out 2 _ (by decide) (by decide) HBW9.out
    rw [hq2] at hC
    refine hC.mono ?_
    rintro e u10 ⟨rfl, hb⟩
    have HBW10 := Ap.of (bel_step HBW9.out hb)
    clear hb hC
    go_wp2_with fail
    go_ret
    exact ⟨rfl, bel_step HBB.out HBW10.out⟩
  · have hex2 := HEX.out
    rw [ho] at hex2
    have HEX := Ap.of hex2
    clear hex2
    refine (HEX.out 1 Wb (by decide) (by decide) HBW0.out).mono ?_
    rintro e u1 ⟨rfl, hb⟩
    have HBW1 := Ap.of hb
    have b8 := blk_bel HBK.out.2.1 hb
    have b9 := blk_bel HBK.out.2.2 hb
    have d8 := blk_cells b8
    have l8 := blk_lt b8
    have d9 := blk_cells b9
    have l9 := blk_lt b9
    clear hb b8 b9
    go_wp2_with fail
    refine (HEX.out 0 u1 (by decide) (by decide) HBW1.out).mono ?_
    rintro e u2 ⟨rfl, hb⟩
    have HBW2 := Ap.of (bel_step HBW1.out hb)
    have b8 := blk_bel HBK.out.2.1 HBW2.out
    have b9 := blk_bel HBK.out.2.2 HBW2.out
    have d8 := blk_cells b8
    have l8 := blk_lt b8
    have d9 := blk_cells b9
    have l9 := blk_lt b9
    clear hb b8 b9
    go_wp2_with fail
    refine (HGET.out u2 HBW2.out).mono ?_
    rintro e u3 ⟨y, l5, m5, c5, g5, f5, h5, rfl, hy, hr, hb⟩
    have HBW3 := Ap.of (bel_step (bel_step HBW2.out hb) (bel_alloc _ (.cells #[.int .i64 y.kind, .int .i64 y.int, .string y.text, .slice l5 m5 c5, .slice g5 f5 h5] 28)))
    clear hy hr hb d8 l8 d9 l9
    rcases hq with ⟨hq2, hq3, hq4, hq5, hq6, hq7⟩ | ⟨hq2, hq3, hq4, hq5, hq6, hq7⟩ | ⟨hq2, hq3, hq4, hq5, hq6, hq7⟩
    all_goals (
      go_wp2_with fail
      have hC := HCL.out 2 _ (by decide) (by decide) HBW3.out
      rw [hq2] at hC
      refine hC.mono ?_
      rintro e u4 ⟨rfl, hb⟩
      have HBW4 := Ap.of (bel_step HBW3.out hb)
      clear hb hC
      go_wp2_with fail
      have hC := HCL.out 3 _ (by decide) (by decide) HBW4.out
      rw [hq3] at hC
      refine hC.mono ?_
      rintro e u5 ⟨rfl, hb⟩
      have HBW5 := Ap.of (bel_step HBW4.out hb)
      clear hb hC
      go_wp2_with fail
      have HBL := Ap.of (bel_step HBW5.out (bel_alloc u5 (.cells #[.int .i64 2, .int .i64 4, .int .i64 6] 38)))
      have HBO := Ap.of (blk_new (w := u5) (k := u5.heap.size) (o := .cells #[.int .i64 2, .int .i64 4, .int .i64 6] 38) rfl)
      generalize u5.alloc (.cells #[.int .i64 2, .int .i64 4, .int .i64 6] 38) = U at HBL HBO ⊢
      go_loopw [15, 88] (fun vn vi wr => ∃ k : Nat, k ≤ 3 ∧ vi = .int .i64 k ∧ vn = .int .i64 (cntQ q k) ∧ Ap (Below U.heap.size U wr)) (fun _ vi _ => 3 - (intOf vi).toNat)
      case atStart => exact ⟨0, by decide, rfl, rfl, Ap.of (Below.refl _ _)⟩
      case round =>
        obtain ⟨k, hk, rfl, rfl, BL⟩ := hrel
        have co := blk_cells (blk_bel HBO.out BL.out)
        have lo := blk_lt (blk_bel HBO.out BL.out)
        have hkc : k = 0 ∨ k = 1 ∨ k = 2 ∨ k = 3 := by omega
        rcases hkc with rfl | rfl | rfl | rfl
        · have hC := HCL.out 2 wr (by decide) (by decide) (bel_step HBL.out BL.out)
          rw [hq2] at hC
          have HC := Ap.of hC
          clear hC
          go_wp2_with fail
          refine HC.out.mono ?_
          rintro e u6 ⟨rfl, hb⟩
          have HBX := Ap.of (bel_step BL.out hb)
          clear hb co lo
          go_wp2_with fail
          go_roundw
          case rel => exact ⟨1, by decide, by go_num, (by first | (simp [cntQ, hq2]; done) | (simp [cntQ, hq2]; decide +kernel)), HBX⟩
          case measure => simp [intOf]
        · have hC := HCL.out 4 wr (by decide) (by decide) (bel_step HBL.out BL.out)
          rw [hq4] at hC
          have HC := Ap.of hC
          clear hC
          go_wp2_with fail
          refine HC.out.mono ?_
          rintro e u6 ⟨rfl, hb⟩
          have HBX := Ap.of (bel_step BL.out hb)
          clear hb co lo
          go_wp2_with fail
          go_roundw
          case rel => exact ⟨2, by decide, by go_num, (by first | (simp [cntQ, hq2, hq4]; done) | (simp [cntQ, hq2, hq4]; decide +kernel)), HBX⟩
          case measure => simp [intOf]
        · have hC := HCL.out 6 wr (by decide) (by decide) (bel_step HBL.out BL.out)
          rw [hq6] at hC
          have HC := Ap.of hC
          clear hC
          go_wp2_with fail
          refine HC.out.mono ?_
          rintro e u6 ⟨rfl, hb⟩
          have HBX := Ap.of (bel_step BL.out hb)
          clear hb co lo
          go_wp2_with fail
          go_roundw
          case rel => exact ⟨3, by decide, by go_num, (by first | (simp [cntQ, hq2, hq4, hq6]; done) | (simp [cntQ, hq2, hq4, hq6]; decide +kernel)), HBX⟩
          case measure => simp [intOf]
        · have h3 : cntQ q 3 = 1 := by simp [cntQ, hq2, hq4, hq6]
          rw [h3]
          have HBW6 := Ap.of (bel_step HBL.out BL.out)
          clear co lo h3
          go_wp2_with fail
          have hC := HCL.out 5 _ (by decide) (by decide) HBW6.out
          rw [hq5] at hC
          refine hC.mono ?_
          rintro e u7 ⟨rfl, hb⟩
          have HBW7 := Ap.of (bel_step HBW6.out hb)
          clear hb hC
          go_wp2_with fail
          have hC := HCL.out 6 _ (by decide) (by decide) HBW7.out
          rw [hq6] at hC
          refine hC.mono ?_
          rintro e u8 ⟨rfl, hb⟩
          have HBW8 := Ap.of (bel_step HBW7.out hb)
          clear hb hC
          go_wp2_with fail
          have hC := HCL.out 7 _ (by decide) (by decide) HBW8.out
          rw [hq7] at hC
          refine hC.mono ?_
          rintro e u9 ⟨rfl, hb⟩
          have HBW9 := Ap.of (bel_step HBW8.out hb)
          clear hb hC
          go_wp2_with fail
          have hC := HCL.out 4 _ (by decide) (by decide) HBW9.out
          rw [hq4] at hC
          refine hC.mono ?_
          rintro e u10 ⟨rfl, hb⟩
          have HBW10 := Ap.of (bel_step HBW9.out hb)
          clear hb hC
          go_wp2_with fail
          go_ret
          exact ⟨rfl, bel_step HBB.out HBW10.out⟩)
end Go.Proofs.YtlomieopppndeaaGreatDoor
