/- value.Set: a value with a field. -/
import Derived.Test.YtlomieopppndeaaGreatDoorInsert
import Derived.Test.YtlomieopppndeaaGreatDoorPutLaw
import Derived.Deep.RegionHeld3
import Derived.Laws.EntriesVeiled
namespace Go.Proofs.YtlomieopppndeaaGreatDoor
open Go.RowKit

/-- A value, handed back alone: in memory that may be, or in new memory. -/
def RetV (d : Nat) (w : World) (ok : Nat → Prop) (y : Val) (e : Ending) (w' : World) : Prop :=
  ∃ (la : Option Addr) (ln lc : Nat) (fa : Option Addr) (fn fc : Nat), e = .returned (.agg #[.int .i64 y.kind, .int .i64 y.int, .string y.text, .slice la ln lc, .slice fa fn fc]) ∧ (KV d).R w' (fun k => ok k ∨ w.heap.size ≤ k) y [.int .i64 y.kind, .int .i64 y.int, .string y.text, .slice la ln lc, .slice fa fn fc] ∧ Below w.heap.size w w'

set_option maxHeartbeats 1000000 in
theorem set1_calls (g : Nat) (nm : ByteArray) (v0 v1 v2 v3 v4 : Value) (name : ByteArray) (w : World) (hg : w.cell? ⟨g, 0, none⟩ = some (.string name)) :
    Calls Tryz.prog 126 #[.agg #[.string nm, v0, v1, v2, v3, v4], .pointer (some ⟨g, 0, none⟩)] w fun e w' => e = .returned (.bool (gtB nm name)) ∧ Below w.heap.size w w' := by
  have hl : g < w.heap.size := World.block_lt_of_cell? w _ hg
  go_enter Tryz.func126, Tryz.ntmps126
  go_wp2
  all_goals go_ret
  all_goals exact ⟨rfl, bel_alloc _ _⟩
/-- Where the first field above a name stands; below 0: nowhere. -/
def gI (fs : List Fld) (name : ByteArray) : Int := match fs.findIdx? (fun f => gtB f.1 name) with
  | some k => k
  | none => -1

set_option maxRecDepth 100000 in
set_option maxHeartbeats 1000000 in
theorem idxg_calls (d : Nat) (g : Nat) (name : ByteArray) (A : Option Addr) (ln lc : Nat) (fs : List Fld) (ok : Nat → Prop) (w : World) (hg : w.cell? ⟨g, 0, none⟩ = some (.string name)) (h : Row (KFld (KV (d + 1))) w ok A ln lc fs) :
    Calls Tryz.prog 94 #[.slice A ln lc, .func (.func 126) #[] #[.pointer (some ⟨g, 0, none⟩)]] w fun e w' => e = .returned (.int .i64 (gI fs name)) ∧ Below w.heap.size w w' := by
  have hlen := h.length
  have hcap := h.cap
  have HG := Ap.of hg
  have HW := Ap.of (World.block_lt_of_cell? w _ hg)
  have H := Ap.of h
  have HLN := Ap.of hlen
  clear hg h hlen
  go_enter Tryz.func94, Tryz.ntmps94
  go_wp2_with fail
  go_loopw [8] (fun i wr => ∃ k : Nat, k ≤ ln ∧ i = .int .i64 k ∧ Ap ((fs.take k).findIdx? (fun f => gtB f.1 name) = none) ∧ Ap (Below w.heap.size w wr)) (fun i _ => ln - (intOf i).toNat)
  case atStart => exact ⟨0, Nat.zero_le _, rfl, Ap.of (by simp), Ap.of (Below.refl _ _)⟩
  case round =>
    obtain ⟨k, hk, rfl, HN, BL⟩ := hrel
    by_cases hlt : k < ln
    · obtain ⟨g2, off, nm, x, la, xn, lc2, fa, fn, fc, rfl, hx, hnm, hr, c0, c1, c2, c3, c4, c5⟩ := fld_cells (H.out.below BL.out) hlt
      have ht : fs.take (k + 1) = fs.take k ++ [(nm, x)] := by
        have hkl : k < fs.length := by rw [HLN.out]; exact hlt
        rw [List.take_succ_eq_append_getElem hkl]
        rw [List.getElem?_eq_getElem hkl] at hx
        injection hx with hx
        rw [hx]
      have HX := Ap.of hx
      have HT := Ap.of ht
      have hcall := set1_calls g nm (.int .i64 x.kind) (.int .i64 x.int) (.string x.text) (.slice la xn lc2) (.slice fa fn fc) name wr ((World.cell?_of_block (w := w) (BL.out.block g HW.out)).trans HG.out)
      have HC := Ap.of hcall
      have hkl : k < fs.length := by rw [HLN.out]; exact hlt
      clear hx ht hr hcall
      cases hb : gtB nm name with
      | true =>
        have HB := Ap.of hb
        clear hb
        go_wp2_with fail
        refine HC.out.mono ?_
        rw [HB.out]
        rintro e w1 ⟨rfl, hbl⟩
        go_wp2_with fail
        go_ret
        exact ⟨by
          have : fs.findIdx? (fun f => gtB f.1 name) = some k := by
            rw [← List.take_append_drop (k + 1) fs, List.findIdx?_append, HT.out, List.findIdx?_append, HN.out]
            have hkl : (fs.take k).length = k := by rw [List.length_take]; omega
            simp [HB.out, hkl]
          unfold gI; rw [this]; rfl, bel_stepB BL.out BL.out.size hbl⟩
      | false =>
        have HB := Ap.of hb
        clear hb
        go_wp2_with fail
        refine HC.out.mono ?_
        rw [HB.out]
        rintro e w1 ⟨rfl, hbl⟩
        go_wp2_with fail
        go_roundw
        case rel => exact ⟨k + 1, by omega, by go_num, Ap.of (by rw [HT.out, List.findIdx?_append, HN.out]; simp [HB.out]), Ap.of (bel_stepB BL.out BL.out.size hbl)⟩
        case measure => simp [intOf]; omega
    · obtain rfl : k = ln := by omega
      go_wp2_with fail
      go_ret
      exact ⟨by have := HN.out; rw [← HLN.out, List.take_length] at this; unfold gI; rw [this]; rfl, BL.out⟩

theorem splice_step (L : List Value) (o : Nat) (v : Value) (vs : List Value) (h : o + (vs.length + 1) ≤ L.length) : splice (L.set o v) (o + 1) vs = splice L o (v :: vs) := by
  have := list_seg_step L o v vs h
  unfold splice
  rw [List.append_assoc, List.append_assoc] at this
  exact this
theorem splice_none (L : List Value) (o : Nat) : splice L o [] = L := by simp [splice]
/-- Six cells of a row's block, written. -/
theorem blk_set6 {w : World} {g o : Nat} {cur : Array Value} {t : TypeId} (h : w.heap[g]? = some (.cells cur t (0, 0))) (hf : o + 6 ≤ cur.size) (v0 v1 v2 v3 v4 v5 : Value) :
    ((((((w.setCell ⟨g, o, none⟩ v0).setCell ⟨g, o + 1, none⟩ v1).setCell ⟨g, o + 2, none⟩ v2).setCell ⟨g, o + 3, none⟩ v3).setCell ⟨g, o + 4, none⟩ v4).setCell ⟨g, o + 5, none⟩ v5).heap[g]? = some (.cells (splice cur.toList o [v0, v1, v2, v3, v4, v5]).toArray t (0, 0)) := by
  have := blk_set (blk_set (blk_set (blk_set (blk_set (blk_set h o v0) (o + 1) v1) (o + 2) v2) (o + 3) v3) (o + 4) v4) (o + 5) v5
  rw [this]
  have hl : o + 6 ≤ cur.toList.length := by rw [Array.length_toList]; exact hf
  have e0 := splice_step cur.toList o v0 [v1, v2, v3, v4, v5] (by simp; omega)
  have e1 := splice_step (cur.toList.set o v0) (o + 1) v1 [v2, v3, v4, v5] (by simp; omega)
  have e2 := splice_step ((cur.toList.set o v0).set (o + 1) v1) (o + 2) v2 [v3, v4, v5] (by simp; omega)
  have e3 := splice_step (((cur.toList.set o v0).set (o + 1) v1).set (o + 2) v2) (o + 3) v3 [v4, v5] (by simp; omega)
  have e4 := splice_step ((((cur.toList.set o v0).set (o + 1) v1).set (o + 2) v2).set (o + 3) v3) (o + 4) v4 [v5] (by simp; omega)
  have e5 := splice_step (((((cur.toList.set o v0).set (o + 1) v1).set (o + 2) v2).set (o + 3) v3).set (o + 4) v4) (o + 5) v5 [] (by simp; omega)
  refine congrArg (fun c => some (Obj.cells c t (0, 0))) (Array.ext' ?_)
  simp only [Array.toList_setIfInBounds]
  rw [← e0, ← e1, ← e2, ← e3, ← e4, ← e5, splice_none]
/-- Five cells of a row's block, written. -/
theorem blk_set5o {w : World} {g o : Nat} {cur : Array Value} {t : TypeId} (h : w.heap[g]? = some (.cells cur t (0, 0))) (hf : o + 5 ≤ cur.size) (v0 v1 v2 v3 v4 : Value) :
    (((((w.setCell ⟨g, o, none⟩ v0).setCell ⟨g, o + 1, none⟩ v1).setCell ⟨g, o + 2, none⟩ v2).setCell ⟨g, o + 3, none⟩ v3).setCell ⟨g, o + 4, none⟩ v4).heap[g]? = some (.cells (splice cur.toList o [v0, v1, v2, v3, v4]).toArray t (0, 0)) := by
  have := blk_set (blk_set (blk_set (blk_set (blk_set h o v0) (o + 1) v1) (o + 2) v2) (o + 3) v3) (o + 4) v4
  rw [this]
  have hl : o + 5 ≤ cur.toList.length := by rw [Array.length_toList]; exact hf
  have e0 := splice_step cur.toList o v0 [v1, v2, v3, v4] (by simp; omega)
  have e1 := splice_step (cur.toList.set o v0) (o + 1) v1 [v2, v3, v4] (by simp; omega)
  have e2 := splice_step ((cur.toList.set o v0).set (o + 1) v1) (o + 2) v2 [v3, v4] (by simp; omega)
  have e3 := splice_step (((cur.toList.set o v0).set (o + 1) v1).set (o + 2) v2) (o + 3) v3 [v4] (by simp; omega)
  have e4 := splice_step ((((cur.toList.set o v0).set (o + 1) v1).set (o + 2) v2).set (o + 3) v3) (o + 4) v4 [] (by simp; omega)
  refine congrArg (fun c => some (Obj.cells c t (0, 0))) (Array.ext' ?_)
  simp only [Array.toList_setIfInBounds]
  rw [← e0, ← e1, ← e2, ← e3, ← e4, splice_none]
theorem only5o (w : World) (g o : Nat) (v0 v1 v2 v3 v4 : Value) : Only (fun j => j = g) w (((((w.setCell ⟨g, o, none⟩ v0).setCell ⟨g, o + 1, none⟩ v1).setCell ⟨g, o + 2, none⟩ v2).setCell ⟨g, o + 3, none⟩ v3).setCell ⟨g, o + 4, none⟩ v4) :=
  Only.set (S := fun j => j = g) (p := ⟨g, o + 4, none⟩) (Only.set (S := fun j => j = g) (p := ⟨g, o + 3, none⟩) (Only.set (S := fun j => j = g) (p := ⟨g, o + 2, none⟩) (Only.set (S := fun j => j = g) (p := ⟨g, o + 1, none⟩) (Only.set (S := fun j => j = g) (p := ⟨g, o, none⟩) (Only.refl _ w) rfl v0) rfl v1) rfl v2) rfl v3) rfl v4
theorem splice_mid (P M S C : List Value) (h : M.length = C.length) : splice (P ++ (M ++ S)) P.length C = P ++ (C ++ S) := by
  unfold splice
  rw [List.take_left' rfl, ← List.append_assoc P M S, List.drop_left' (by rw [List.length_append, h])]
theorem only6o (w : World) (g o : Nat) (v0 v1 v2 v3 v4 v5 : Value) : Only (fun j => j = g) w ((((((w.setCell ⟨g, o, none⟩ v0).setCell ⟨g, o + 1, none⟩ v1).setCell ⟨g, o + 2, none⟩ v2).setCell ⟨g, o + 3, none⟩ v3).setCell ⟨g, o + 4, none⟩ v4).setCell ⟨g, o + 5, none⟩ v5) :=
  Only.set (S := fun j => j = g) (p := ⟨g, o + 5, none⟩) (Only.set (S := fun j => j = g) (p := ⟨g, o + 4, none⟩) (Only.set (S := fun j => j = g) (p := ⟨g, o + 3, none⟩) (Only.set (S := fun j => j = g) (p := ⟨g, o + 2, none⟩) (Only.set (S := fun j => j = g) (p := ⟨g, o + 1, none⟩) (Only.set (S := fun j => j = g) (p := ⟨g, o, none⟩) (Only.refl _ w) rfl v0) rfl v1) rfl v2) rfl v3) rfl v4) rfl v5
/-- One element of a row of one's own, another one. -/
theorem Own.put {α : Type} {K : Knd α} {e : TypeId} {B : Nat} {w w' : World} {ok okx : Nat → Prop} {xs : List α} {x : α} {cs : List Value} {g cap k : Nat} {cur : Array Value} {css : List (List Value)} (hk : k < xs.length) (hB : B ≤ g) (hok : ok g) (hl : xs.length ≤ cap) (hm : cap ≤ maxLen) (hs : cur.size = cap * K.sz)
    (ht : cur.toList.take (xs.length * K.sz) = css.flatten) (hcl : css.length = xs.length) (hc : ∀ cs ∈ css, cs.length = K.sz) (hr : ∀ (i : Nat) (x : α), xs[i]? = some x → ∃ cs, css[i]? = some cs ∧ K.R w (fun k => ok k ∧ k ≠ g) x cs) (hx : K.R w okx x cs) (hokx : ∀ k, okx k → ok k ∧ k ≠ g)
    (hg : w'.heap[g]? = some (.cells (splice cur.toList (k * K.sz) cs).toArray e (0, 0))) (hon : Only (fun j => j = g) w w') : Own K e B w' ok (.slice (some ⟨g, 0, none⟩) xs.length cap) (xs.set k x) := by
  have hcx := K.len hx
  have hcur : cur.toList.length = cap * K.sz := by rw [Array.length_toList]; exact hs
  have hkk : k * K.sz + K.sz ≤ xs.length * K.sz := by rw [← Nat.succ_mul]; exact Nat.mul_le_mul_right _ hk
  have hll : xs.length * K.sz ≤ cap * K.sz := Nat.mul_le_mul_right _ hl
  have hlen : (xs.set k x).length = xs.length := List.length_set ..
  rw [← hlen]
  refine Own.closed (css := css.set k cs) hB hok hg (by rw [hlen]; exact hl) hm ?_ ?_ (by rw [List.length_set, hlen, hcl]) ?_
  · rw [List.size_toArray, length_splice _ _ _ (by omega), hcur]
  · rw [hlen]
    have hcs : css.set k cs = css.take k ++ cs :: css.drop (k + 1) := by rw [List.set_eq_take_append_cons_drop, if_pos (by omega)]
    obtain ⟨ck, hck⟩ : ∃ ck, css[k]? = some ck := ⟨_, List.getElem?_eq_getElem (by omega)⟩
    have hcs0 : css = css.take k ++ ck :: css.drop (k + 1) := by
      conv => lhs; rw [← List.take_append_drop k css]
      rw [List.drop_eq_getElem_cons (by omega)]
      rw [List.getElem?_eq_getElem (by omega)] at hck
      injection hck with hck
      rw [hck]
    have hckl : ck.length = cs.length := by rw [hc ck (List.mem_of_getElem? hck), hcx]
    have hP : (css.take k).flatten.length = k * K.sz := by
      rw [flat_len _ K.sz (fun c h => hc c (List.mem_of_mem_take h)), List.length_take, Nat.min_eq_left (by omega)]
    have hcurE : cur.toList = (css.take k).flatten ++ (ck ++ ((css.drop (k + 1)).flatten ++ cur.toList.drop (xs.length * K.sz))) := by
      conv => lhs; rw [← List.take_append_drop (xs.length * K.sz) cur.toList, ht, hcs0]
      rw [List.flatten_append, List.flatten_cons, List.append_assoc, List.append_assoc]
    rw [hcurE, ← hP, splice_mid _ _ _ _ hckl, hcs, List.flatten_append, List.flatten_cons, ← List.append_assoc, ← List.append_assoc, ← List.append_assoc]
    refine List.take_left' ?_
    have hfl := flat_len _ K.sz (fun c h => by
      rcases List.mem_append.1 (show c ∈ css.take k ++ cs :: css.drop (k + 1) from h) with h | h
      · exact hc c (List.mem_of_mem_take h)
      · rcases List.mem_cons.1 h with h | h
        · rw [h]; exact hcx
        · exact hc c (List.mem_of_mem_drop h))
    rw [List.flatten_append, List.flatten_cons, ← List.append_assoc] at hfl
    rw [hfl, ← hcs, List.length_set, hcl]
  · intro i y hy
    rw [List.getElem?_set] at hy
    by_cases hki : k = i
    · subst hki
      rw [if_pos rfl, if_pos hk] at hy
      injection hy with hy
      subst hy
      exact ⟨cs, by rw [List.getElem?_set_self (by omega)], K.mono hokx (Knd.only hx hon (fun k hk e => (hokx k hk).2 e))⟩
    · rw [if_neg hki] at hy
      obtain ⟨c, a, b⟩ := hr i y hy
      exact ⟨c, by rw [List.getElem?_set_ne hki]; exact a, Knd.only b hon (fun k hk => hk.2)⟩

theorem RetV.mk {d : Nat} {w w' : World} {ok : Nat → Prop} {y : Val} {k n : Int} {s : ByteArray} {la : Option Addr} {ln lc : Nat} {fa : Option Addr} {fn fc : Nat} (hk : k = y.kind) (hn : n = y.int) (hs : s = y.text) (h : (KV d).R w' (fun k => ok k ∨ w.heap.size ≤ k) y [.int .i64 y.kind, .int .i64 y.int, .string y.text, .slice la ln lc, .slice fa fn fc]) (hb : Below w.heap.size w w') :
    RetV d w ok y (.returned (.agg #[.int .i64 k, .int .i64 n, .string s, .slice la ln lc, .slice fa fn fc])) w' := by
  subst hk hn hs
  exact ⟨la, ln, lc, fa, fn, fc, rfl, h, hb⟩
theorem only_set6 (w : World) (a b : Nat) (v v0 v1 v2 v3 v4 : Value) : Only (fun j => j = a ∨ j = b) w ((((((w.setCell ⟨a, 4, none⟩ v).setCell ⟨b, 0, none⟩ v0).setCell ⟨b, 1, none⟩ v1).setCell ⟨b, 2, none⟩ v2).setCell ⟨b, 3, none⟩ v3).setCell ⟨b, 4, none⟩ v4) :=
  (Only.mono (Only.setCell w ⟨a, 4, none⟩ v) (fun _ hi => .inl hi)).trans (only5 _ b v0 v1 v2 v3 v4) (fun _ hi => .inl (.inr hi))

set_option maxRecDepth 100000 in
set_option maxHeartbeats 4000000 in
theorem set_calls (D : Nat) (x v : Val) (h5 : x.kind = 5) (la : Option Addr) (ln lc : Nat) (fa : Option Addr) (fn fc : Nat) (la2 : Option Addr) (ln2 lc2 : Nat) (fa2 : Option Addr) (fn2 fc2 : Nat) (name : ByteArray) (hnm : name.size ≤ maxLen) (ok : Nat → Prop) (w : World) (hfl : x.fields.length ≤ 1000)
    (hx : (KV (D + 2)).R w ok x [.int .i64 x.kind, .int .i64 x.int, .string x.text, .slice la ln lc, .slice fa fn fc]) (hv : (KV (D + 1)).R w ok v [.int .i64 v.kind, .int .i64 v.int, .string v.text, .slice la2 ln2 lc2, .slice fa2 fn2 fc2]) :
    Calls Tryz.prog 101 #[.agg #[.int .i64 x.kind, .int .i64 x.int, .string x.text, .slice la ln lc, .slice fa fn fc], .string name, .agg #[.int .i64 v.kind, .int .i64 v.int, .string v.text, .slice la2 ln2 lc2, .slice fa2 fn2 fc2]] w (RetV (D + 2) w ok (x.set name v)) := by
  obtain ⟨_, hxi, hxt, hxl, hxf⟩ := KV_parts hx
  have hb4 := bel_step (bel_step (bel_step (bel_alloc w (.cells #[.int .i64 5, .int .i64 x.int, .string x.text, .slice la ln lc, .slice fa fn fc] 28)) (bel_alloc _ (.cells #[.string name] 9))) (bel_alloc _ (.cells #[.int .i64 v.kind, .int .i64 v.int, .string v.text, .slice la2 ln2 lc2, .slice fa2 fn2 fc2] 28))) (bel_alloc _ (.cells #[.int .i64 0, .int .i64 0, .string ⟨#[]⟩, .slice none 0 0, .slice none 0 0] 28))
  have hcl := clonef_calls (D + 1) fa fn fc (fun k => ok k ∧ k < w.heap.size) _ x.fields (by rw [← hxf.length]; omega) (hxf.bound.below hb4)
  have hat : ∀ W, Below w.heap.size w W → Calls Tryz.prog 61 #[.agg #[.int .i64 5, .int .i64 x.int, .string x.text, .slice la ln lc, .slice fa fn fc], .string name] W fun e w' => e = .returned (.int .i64 (fIdx x.fields name)) ∧ Below W.heap.size W w' := fun W hW => by
    have := at_calls D x la ln lc fa fn fc name ok W (Knd.below hx hW)
    rw [h5, show x.at name = fIdx x.fields name from if_pos h5] at this
    exact this
  have HCL := Ap.of hcl
  have HAT := Ap.of hat
  have HPT := Ap.of (And.intro (KV_parts hx).1 (And.intro hxi (And.intro hxt hxl.bound)))
  rw [h5] at hx ⊢
  have HX := Ap.of hx
  have HV := Ap.of hv
  have H5 := Ap.of h5
  have HB4 := Ap.of hb4
  clear hcl hat hx hv h5 hb4 hxi hxt hxl hxf
  generalize hx1 : x.int = xi at *
  generalize hx2 : x.text = xt at *
  generalize hv0 : v.kind = vk at *
  generalize hv1 : v.int = vi at *
  generalize hv2 : v.text = vt at *
  go_enter Tryz.func101, Tryz.ntmps101
  go_wp2_with fail
  refine HCL.out.mono ?_
  rintro e w1 ⟨l, rfl, hO, hb⟩
  have hs0 : ((((w.alloc (.cells #[.int .i64 5, .int .i64 xi, .string xt, .slice la ln lc, .slice fa fn fc] 28)).alloc (.cells #[.string name] 9)).alloc (.cells #[.int .i64 vk, .int .i64 vi, .string vt, .slice la2 ln2 lc2, .slice fa2 fn2 fc2] 28)).alloc (.cells #[.int .i64 0, .int .i64 0, .string ⟨#[]⟩, .slice none 0 0, .slice none 0 0] 28)).heap.size = w.heap.size + 4 := by simp
  have hO1 := hO.mono (ok' := fun k => (ok k ∧ k < w.heap.size) ∨ w.heap.size + 4 ≤ k) (fun k hk => by
    rcases hk with h | h
    · exact .inl h.1
    · exact .inr (by rw [← hs0]; exact h))
  rw [hs0] at hO1
  have bx := blk_bel (blk_old (blk_old (blk_old (blk_new (w := w) (k := w.heap.size) rfl)))) hb
  have bn := blk_bel (blk_old (blk_old (blk_new (w := w.alloc (.cells #[.int .i64 5, .int .i64 xi, .string xt, .slice la ln lc, .slice fa fn fc] 28)) (k := w.heap.size + 1) (by simp)))) hb
  have br := blk_bel (blk_new (k := w.heap.size + 1 + 1 + 1) (by simp)) hb
  have bv := blk_bel (blk_old (blk_new (w := (w.alloc (.cells #[.int .i64 5, .int .i64 xi, .string xt, .slice la ln lc, .slice fa fn fc] 28)).alloc (.cells #[.string name] 9)) (k := w.heap.size + 1 + 1) (by simp))) hb
  have hsz1 : w.heap.size + 4 ≤ w1.heap.size := by have := hb.size; rw [hs0] at this; exact this
  have HB1 := Ap.of (bel_step HB4.out hb)
  have HO1 := Ap.of hO1
  have HBX := Ap.of bx
  have HBN := Ap.of bn
  have HBR := Ap.of br
  have HBV := Ap.of bv
  have cx := blk_cells bx
  have cn := blk_cells bn
  have cv := blk_cells bv
  have lx := blk_lt bx
  have l_n := blk_lt bn
  have l_v := blk_lt bv
  clear hs0 hO hO1 hb bx bn br bv HCL HB4
  go_wp2_with fail
  refine (HAT.out _ (bel_step HB1.out (bel_alloc _ _))).mono ?_
  rintro e w2 ⟨rfl, hb⟩
  have HB2 := Ap.of (bel_step (bel_step HB1.out (bel_alloc _ _)) hb)
  have HO2 := Ap.of ((HO1.out.below (bel_alloc w1 (.cells #[.string name, .int .i64 vk, .int .i64 vi, .string vt, .slice la2 ln2 lc2, .slice fa2 fn2 fc2] 37))).below hb)
  have HBX2 := Ap.of (blk_bel (blk_old HBX.out) hb)
  have HBN2 := Ap.of (blk_bel (blk_old HBN.out) hb)
  have HBR2 := Ap.of (blk_bel (blk_old HBR.out) hb)
  have HBF2 := Ap.of (blk_bel (blk_new (w := w1) (k := w1.heap.size) (o := .cells #[.string name, .int .i64 vk, .int .i64 vi, .string vt, .slice la2 ln2 lc2, .slice fa2 fn2 fc2] 37) rfl) hb)
  have dx := blk_cells HBX2.out
  have fx := blk_free HBX2.out
  have dn := blk_cells HBN2.out
  have dr := blk_cells HBR2.out
  have fr := blk_free HBR2.out
  have df := blk_cells HBF2.out
  have mx := blk_lt HBX2.out
  have mn := blk_lt HBN2.out
  have mr := blk_lt HBR2.out
  have mf := blk_lt HBF2.out
  clear hb cx cn cv lx l_n l_v HBX HBN HBR HBV HO1
  cases hk : x.fields.findIdx? (fun f => decide (f.1 = name)) with
  | some k =>
    have e1 : fIdx x.fields name = (k : Int) := by unfold fIdx; rw [hk]
    have e2 : x.set name v = x.setFields (x.fields.set k (name, v)) := by
      unfold Val.set
      rw [if_pos H5.out]
      unfold setF
      rw [hk]
    rw [e1, e2]
    have hkl : k < x.fields.length := (List.findIdx?_eq_some_iff_getElem.1 hk).1
    obtain ⟨g, cap, cur, css, hl, hBg, hokg, hg, hlc, hcm, hcs, ht, hcl, hc, hr⟩ := HO2.out.opened (by omega)
    subst hl
    have hsz := KFld_sz (D + 1)
    rw [hsz] at hcs
    have hkn : k * 6 + 6 ≤ cur.size := by rw [hcs]; omega
    have cg : ∀ q, q < 6 → ∃ u, w2.cell? ⟨g, k * 6 + q, none⟩ = some u := fun q hq => ⟨_, (blk_cells hg _).trans (Array.getElem?_eq_getElem (by omega))⟩
    obtain ⟨u0, g0⟩ := cg 0 (by omega)
    obtain ⟨u1, g1⟩ := cg 1 (by omega)
    obtain ⟨u2, g2⟩ := cg 2 (by omega)
    obtain ⟨u3, g3⟩ := cg 3 (by omega)
    obtain ⟨u4, g4⟩ := cg 4 (by omega)
    obtain ⟨u5, g5⟩ := cg 5 (by omega)
    rw [Nat.add_zero] at g0
    have fg := blk_free hg
    have lg := blk_lt hg
    have hgx : g ≠ w.heap.size := by omega
    have hgr : g ≠ w.heap.size + 1 + 1 + 1 := by omega
    have hki : (k : Int) < (x.fields.length : Int) := by omega
    have HOP := Ap.of (And.intro hg (And.intro ht (And.intro hcl (And.intro hc (And.intro hr (And.intro hlc (And.intro hcm (And.intro hcs (And.intro hsz (And.intro hkn (And.intro hkl (And.intro hBg (And.intro hokg e2)))))))))))))
    have hk0 : (0 : Int) ≤ (k : Int) := by omega
    clear hg ht hcl hc hr hlc hcm hcs hsz hkn hBg hokg cg hk e1 e2 HO2 hkl
    generalize hfl2 : x.fields.length = fl at *
    go_wp2_with fail
    obtain ⟨hg, ht, hcl, hc, hr, hlc, hcm, hcs, hsz, hkn, hkl, hBg, hokg, e2⟩ := HOP.out
    rw [e2]
    have hg6 := blk_set6 hg hkn (.string name) (.int .i64 vk) (.int .i64 vi) (.string vt) (.slice la2 ln2 lc2) (.slice fa2 fn2 fc2)
    have ho6 := only6o w2 g (k * 6) (.string name) (.int .i64 vk) (.int .i64 vi) (.string vt) (.slice la2 ln2 lc2) (.slice fa2 fn2 fc2)
    generalize ((((((w2.setCell ⟨g, k * 6, none⟩ (.string name)).setCell ⟨g, k * 6 + 1, none⟩ (.int .i64 vk)).setCell ⟨g, k * 6 + 2, none⟩ (.int .i64 vi)).setCell ⟨g, k * 6 + 3, none⟩ (.string vt)).setCell ⟨g, k * 6 + 4, none⟩ (.slice la2 ln2 lc2)).setCell ⟨g, k * 6 + 5, none⟩ (.slice fa2 fn2 fc2)) = W6 at *
    have hs := only_set6 W6 w.heap.size (w.heap.size + 1 + 1 + 1) (.slice (some ⟨g, 0, none⟩) fl cap) (.int .i64 5) (.int .i64 xi) (.string xt) (.slice la ln lc) (.slice (some ⟨g, 0, none⟩) fl cap)
    have hv2 : (KFld (KV (D + 1))).R w2 (fun k => ok k ∧ k < w.heap.size) (name, v) [.string name, .int .i64 vk, .int .i64 vi, .string vt, .slice la2 ln2 lc2, .slice fa2 fn2 fc2] :=
      ⟨_, rfl, hnm, (KV (D + 1)).move (fun k hk => HB2.out.block k hk.2) ((KV (D + 1)).bound HV.out)⟩
    have hown : Own (KFld (KV (D + 1))) 37 (w.heap.size + 4) W6 (fun k => (ok k ∧ k < w.heap.size) ∨ w.heap.size + 4 ≤ k) (.slice (some ⟨g, 0, none⟩) x.fields.length cap) (x.fields.set k (name, v)) :=
      Own.put (w := w2) (okx := fun k => ok k ∧ k < w.heap.size) (by rw [hfl2]; exact hkl) hBg hokg (by rw [hfl2]; exact hlc) hcm (by rw [hsz]; exact hcs) (by rw [hsz, hfl2]; exact ht) (by rw [hfl2]; exact hcl) (fun c h => (hc c h).1) hr hv2 (fun k hk => ⟨.inl hk, by omega⟩) (by rw [hsz]; exact hg6) ho6
    obtain ⟨A', c', hva, hrow⟩ := hown.row
    rw [List.length_set, hfl2] at hva hrow
    injection hva with hva1 _ hva2
    subst hva1 hva2
    have dr6 := blk_cells (blk_only HBR2.out ho6 (fun e => hgr e.symm))
    have hb6 : Below w.heap.size w W6 := bel_only HB2.out HB2.out.size ho6 (fun j he => by omega)
    exact bodyPost_ret (v := .agg #[.int .i64 5, .int .i64 xi, .string xt, .slice la ln lc, .slice (some ⟨g, 0, none⟩) fl cap]) (by simp [results, Tryz.results101, go_sem, dr6]) rfl
      (RetV.mk (show 5 = x.kind from H5.out.symm) hx1.symm hx2.symm ⟨la, ln, lc, some ⟨g, 0, none⟩, fl, cap, rfl, HPT.out.1, (by show inI64 x.int; rw [hx1]; exact HPT.out.2.1), (by show x.text.size ≤ maxLen; rw [hx2]; exact HPT.out.2.2.1),
        (((HPT.out.2.2.2.move (w' := W6) (fun k hk => hb6.block k hk.2)).only hs (fun j hj he => by have := hj.2; omega)).mono (fun _ hk => .inl hk.1)), (hrow.only hs (fun j hj he => by omega)).mono (fun k hk => hk.elim (fun h => .inl h.1) (fun h => .inr (by omega)))⟩ (bel_only hb6 hb6.size hs (fun j he => by omega)))
  | none =>
    have e1 : fIdx x.fields name = -1 := by unfold fIdx; rw [hk]
    have e2 : x.set name v = x.setFields (x.fields.take (gIdx x.fields name) ++ (name, v) :: x.fields.drop (gIdx x.fields name)) := by
      unfold Val.set
      rw [if_pos H5.out]
      unfold setF
      rw [hk]
    rw [e1]
    obtain ⟨A, c, hl, hlc, hc63⟩ := HO2.out.slice
    subst hl
    obtain ⟨A', c', hva, hrow⟩ := HO2.out.row
    injection hva with hva1 _ hva2
    subst hva1 hva2
    have hidx := fun W (hW : Below w2.heap.size w2 W) => idxg_calls D (w.heap.size + 1) name A x.fields.length c x.fields _ W (blk_cells (blk_bel HBN2.out hW) 0) (hrow.below hW)
    have HIX := Ap.of hidx
    have HE2 := Ap.of e2
    have hgi : (∃ i : Nat, gI x.fields name = (i : Int) ∧ gIdx x.fields name = i ∧ i ≤ x.fields.length) ∨ (gI x.fields name = -1 ∧ gIdx x.fields name = x.fields.length) := by
      unfold gI gIdx
      cases hq : x.fields.findIdx? (fun f => gtB f.1 name) with
      | some i => exact .inl ⟨i, rfl, rfl, Nat.le_of_lt (List.findIdx?_eq_some_iff_getElem.1 hq).1⟩
      | none => exact .inr ⟨rfl, rfl⟩
    have HGI := Ap.of hgi
    clear hidx e2 e1 hk hgi hrow
    go_wp2_with fail
    refine (HIX.out w2 (Below.refl _ _)).mono ?_
    rintro e w3 ⟨rfl, hb⟩
    have HO3 := Ap.of ((HO2.out.below hb).below (bel_alloc w3 (.cells #[.string name, .int .i64 vk, .int .i64 vi, .string vt, .slice la2 ln2 lc2, .slice fa2 fn2 fc2] 37)))
    have HBX3 := Ap.of (blk_old (o' := .cells #[.string name, .int .i64 vk, .int .i64 vi, .string vt, .slice la2 ln2 lc2, .slice fa2 fn2 fc2] 37) (blk_bel HBX2.out hb))
    have HBR3 := Ap.of (blk_old (o' := .cells #[.string name, .int .i64 vk, .int .i64 vi, .string vt, .slice la2 ln2 lc2, .slice fa2 fn2 fc2] 37) (blk_bel HBR2.out hb))
    have HBF3 := Ap.of (blk_bel HBF2.out hb)
    have HB3 := Ap.of (bel_step (bel_step HB2.out hb) (bel_alloc w3 (.cells #[.string name, .int .i64 vk, .int .i64 vi, .string vt, .slice la2 ln2 lc2, .slice fa2 fn2 fc2] 37)))
    have sz3 : w2.heap.size ≤ w3.heap.size := hb.size
    have ef := blk_cells HBF3.out
    have nf := blk_lt HBF3.out
    have hins : ∀ i, i ≤ x.fields.length → Calls Tryz.prog 127 #[.slice A x.fields.length c, .int .i64 (i : Int), .slice (some ⟨w3.heap.size, 0, none⟩) 1 1] (w3.alloc (.cells #[.string name, .int .i64 vk, .int .i64 vi, .string vt, .slice la2 ln2 lc2, .slice fa2 fn2 fc2] 37))
        (InsP (D + 1) (w.heap.size + 4) (w3.alloc (.cells #[.string name, .int .i64 vk, .int .i64 vi, .string vt, .slice la2 ln2 lc2, .slice fa2 fn2 fc2] 37)) (fun k => (ok k ∧ k < w.heap.size) ∨ w.heap.size + 4 ≤ k) (.slice A x.fields.length c) x.fields i (name, v)) := fun i hi =>
      insert_calls (D + 1) (w.heap.size + 4) _ _ (fun k => ok k ∧ k < w.heap.size) _ x.fields (name, v) w3.heap.size [.string name, .int .i64 vk, .int .i64 vi, .string vt, .slice la2 ln2 lc2, .slice fa2 fn2 fc2] i hi HO3.out (blk_new rfl)
        ⟨_, rfl, hnm, (KV (D + 1)).move (fun k hk => HB3.out.block k hk.2) ((KV (D + 1)).bound HV.out)⟩ (fun k hk => ⟨.inl hk, fun e => by have := (HO3.out.lt k e.symm).1; omega⟩)
        (fun e => by have := ((HO2.out.below hb).lt w3.heap.size e.symm).2; omega) (fun k hk => .inr (by simp at hk; omega)) (by omega) (by simp; omega)
    have HIN := Ap.of hins
    have HLT := Ap.of HO3.out.lt
    clear hb hins dx fx dn dr fr df mx mn mr mf HO2 HBX2 HBN2 HBR2 HBF2
    rcases HGI.out with ⟨i, hg1, hg2, hil⟩ | ⟨hg1, hg2⟩
    · rw [hg1]
      have t0 : decide ((i : Int) < 0) = false := by simp
      have HEQ := Ap.of hg2
      clear hg1 hg2 HGI
      have hcall := HIN.out i hil
      have HCL := Ap.of hcall
      clear hcall
      generalize hfl2 : x.fields.length = fl at *
      go_wp2_with fail
      refine HCL.out.mono ?_
      rintro e w5 ⟨v5, rfl, hO5, hon⟩
      obtain ⟨A5, c5, hv5, _, _⟩ := hO5.slice
      obtain ⟨A6, c6, hv6, hrow⟩ := hO5.row
      have hlen : (x.fields.take i ++ (name, v) :: x.fields.drop i).length = fl + 1 := by rw [List.length_append, List.length_cons, List.length_take, List.length_drop, hfl2]; omega
      rw [hlen] at hv5 hv6 hrow
      subst hv5
      injection hv6 with hv61 _ hv62
      subst hv61 hv62
      have hb5 : Below w.heap.size w w5 := bel_only HB3.out HB3.out.size hon (fun j he => by have := (HLT.out j he).1; omega)
      have bx5 := blk_only HBX3.out hon (fun he => by have := (HLT.out _ he).1; omega)
      have br5 := blk_only HBR3.out hon (fun he => by have := (HLT.out _ he).1; omega)
      have dx5 := blk_cells bx5
      have fx5 := blk_free bx5
      have mx5 := blk_lt bx5
      have dr5 := blk_cells br5
      have fr5 := blk_free br5
      have mr5 := blk_lt br5
      have HROW := Ap.of hrow
      have HB5 := Ap.of hb5
      clear hO5 hon bx5 br5 hrow hb5 ef nf
      go_wp2_with fail
      rw [HE2.out, HEQ.out]
      have hs := only_set6 w5 w.heap.size (w.heap.size + 1 + 1 + 1) (.slice A5 (fl + 1) c5) (.int .i64 5) (.int .i64 xi) (.string xt) (.slice la ln lc) (.slice A5 (fl + 1) c5)
      exact bodyPost_ret (v := .agg #[.int .i64 5, .int .i64 xi, .string xt, .slice la ln lc, .slice A5 (fl + 1) c5]) (by simp [results, Tryz.results101, go_sem, dr5]) rfl
        (RetV.mk (show 5 = x.kind from H5.out.symm) hx1.symm hx2.symm ⟨la, ln, lc, A5, fl + 1, c5, rfl, HPT.out.1, (by show inI64 x.int; rw [hx1]; exact HPT.out.2.1), (by show x.text.size ≤ maxLen; rw [hx2]; exact HPT.out.2.2.1),
          (((HPT.out.2.2.2.move (w' := w5) (fun k hk => HB5.out.block k hk.2)).only hs (fun j hj he => by have := hj.2; omega)).mono (fun _ hk => .inl hk.1)), (HROW.out.only hs (fun j hj he => by omega)).mono (fun k hk => hk.elim (fun h => .inl h.1) (fun h => .inr (by omega)))⟩ (bel_only HB5.out HB5.out.size hs (fun j he => by omega)))
    · rw [hg1]
      have HEQ := Ap.of hg2
      clear hg1 hg2 HGI
      have hcall := HIN.out x.fields.length (Nat.le_refl _)
      have HCL := Ap.of hcall
      clear hcall
      generalize hfl2 : x.fields.length = fl at *
      go_wp2_with fail
      refine HCL.out.mono ?_
      rintro e w5 ⟨v5, rfl, hO5, hon⟩
      obtain ⟨A5, c5, hv5, _, _⟩ := hO5.slice
      obtain ⟨A6, c6, hv6, hrow⟩ := hO5.row
      have hlen : (x.fields.take fl ++ (name, v) :: x.fields.drop fl).length = fl + 1 := by rw [List.length_append, List.length_cons, List.length_take, List.length_drop, hfl2]; omega
      rw [hlen] at hv5 hv6 hrow
      subst hv5
      injection hv6 with hv61 _ hv62
      subst hv61 hv62
      have hb5 : Below w.heap.size w w5 := bel_only HB3.out HB3.out.size hon (fun j he => by have := (HLT.out j he).1; omega)
      have bx5 := blk_only HBX3.out hon (fun he => by have := (HLT.out _ he).1; omega)
      have br5 := blk_only HBR3.out hon (fun he => by have := (HLT.out _ he).1; omega)
      have dx5 := blk_cells bx5
      have fx5 := blk_free bx5
      have mx5 := blk_lt bx5
      have dr5 := blk_cells br5
      have fr5 := blk_free br5
      have mr5 := blk_lt br5
      have HROW := Ap.of hrow
      have HB5 := Ap.of hb5
      clear hO5 hon bx5 br5 hrow hb5 ef nf
      go_wp2_with fail
      rw [HE2.out, HEQ.out]
      have hs := only_set6 w5 w.heap.size (w.heap.size + 1 + 1 + 1) (.slice A5 (fl + 1) c5) (.int .i64 5) (.int .i64 xi) (.string xt) (.slice la ln lc) (.slice A5 (fl + 1) c5)
      exact bodyPost_ret (v := .agg #[.int .i64 5, .int .i64 xi, .string xt, .slice la ln lc, .slice A5 (fl + 1) c5]) (by simp [results, Tryz.results101, go_sem, dr5]) rfl
        (RetV.mk (show 5 = x.kind from H5.out.symm) hx1.symm hx2.symm ⟨la, ln, lc, A5, fl + 1, c5, rfl, HPT.out.1, (by show inI64 x.int; rw [hx1]; exact HPT.out.2.1), (by show x.text.size ≤ maxLen; rw [hx2]; exact HPT.out.2.2.1),
          (((HPT.out.2.2.2.move (w' := w5) (fun k hk => HB5.out.block k hk.2)).only hs (fun j hj he => by have := hj.2; omega)).mono (fun _ hk => .inl hk.1)), (HROW.out.only hs (fun j hj he => by omega)).mono (fun k hk => hk.elim (fun h => .inl h.1) (fun h => .inr (by omega)))⟩ (bel_only HB5.out HB5.out.size hs (fun j he => by omega)))
end Go.Proofs.YtlomieopppndeaaGreatDoor
