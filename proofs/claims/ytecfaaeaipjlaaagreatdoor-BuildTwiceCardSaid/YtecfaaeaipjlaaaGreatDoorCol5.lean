/- An index is made ready. -/
import Derived.Test.YtecfaaeaipjlaaaGreatDoorCol4
namespace Go.Proofs.YtecfaaeaipjlaaaGreatDoor
open Go.RowKit
attribute [local go_sem] max2_int min2_int

theorem Tryz.infoPB : (Tryz.prog.info? 92).map (fun i => (i.zero, i.size, i.bytes)) = some (some (.pointer none), 1, 8) := by kernel_rfl
theorem Own.one1 {B m : Nat} {w : World} {ok : Nat → Prop} {v : Value} (h : Own KPtr 92 B w ok v [m]) : One w v m := by
  obtain ⟨_, css, hl, ho, hr⟩ := h
  obtain ⟨cs, hcs, hp⟩ := hr 0 m rfl
  have hcs1 : css = [cs] := by
    match css, hl, hcs with
    | [x], _, hcs => simp at hcs; rw [hcs]
  have hp' : cs = [.pointer (some ⟨m, 0, none⟩)] := hp
  subst hcs1
  subst hp'
  rcases ho.2 with ⟨_, h0⟩ | ⟨g, cap, cur, rfl, _, hg, h1, h2, h3, h4⟩
  · simp at h0
  · refine ⟨g, cap, cur, rfl, hg, by simpa [KPtr] using h3, h1, by unfold maxLen at h2; omega, ?_⟩
    have h5 : cur.toList.take 1 = [.pointer (some ⟨m, 0, none⟩)] := by simpa [KPtr] using h4
    rw [← Array.getElem?_toList]
    have h6 : (cur.toList.take 1)[0]? = some (.pointer (some ⟨m, 0, none⟩)) := by rw [h5]; rfl
    simpa using h6
/-- A ready index, over an empty heap. -/
def Rdy (w : World) (c h m : Nat) (ln : Int) (nm pt : ByteArray) (un : Bool) (af : Int) : Prop :=
  ∃ (R : Value) (g k t q : Nat), w.heap[c]? = some (.cells #[.pointer (some ⟨h, 0, none⟩), R, .slice (some ⟨g, 0, none⟩) 0 k] 64 (0, 0)) ∧ w.heap[h]? = some (.cells #[.slice none 0 0, .int .i64 ln] 89 (0, 0)) ∧ One w R m ∧ g < w.heap.size ∧ k ≤ 9223372036854775807 ∧ w.heap[m]? = some (.cells #[.string nm, .string pt, .bool un, .pointer (some ⟨t, 0, none⟩), .pointer (some ⟨q, 0, none⟩), .int .i64 af, .bool true] 98 (0, 0))
theorem One.ne {w : World} {v : Value} {m b : Nat} {cb : Array Value} {tb : TypeId} {fb : Nat × Nat} (h : One w v m) (hb : w.heap[b]? = some (.cells cb tb fb)) (ht : tb ≠ 92) : ¬ v.ownBlock = some b := by
  obtain ⟨g, k, cur, rfl, h2, _⟩ := h
  intro e
  simp [Value.ownBlock] at e
  exact blk_neT hb h2 ht e.symm
set_option maxRecDepth 100000 in
set_option maxHeartbeats 4000000 in
theorem commit_calls (c h m t n q : Nat) (B : Value) (ln : Int) (nm pt : ByteArray) (un : Bool) (af : Int) (w : World) (H : Bld w c h m t n q (.slice none 0 0) B ln nm pt un true af) :
    Calls Tryz.prog 25 #[.pointer (some ⟨c, 0, none⟩), .string nm] w fun e w' => e = .returned .nilIface ∧ Rdy w' c h m ln nm pt un af ∧ Only (fun j => j = c ∨ B.ownBlock = some j) w w' := by
  have HB := Ap.of (built_calls c h m (.slice none 0 0) B nm w H.hc H.one (made_name H.hm))
  obtain ⟨g, k, cur, rfl, hg, hcz, hk1, hk2, hc0⟩ := H.one
  have HG := Ap.of (And.intro hg (And.intro hcz (And.intro hk1 hk2)))
  have HH := Ap.of H
  clear H hg hcz hk1 hk2 hc0
  go_enter Tryz.func25, Tryz.ntmps25
  go_wp2_with fail
  refine HB.out.mono ?_
  rintro e w1 ⟨rfl, hb⟩
  have HL := Ap.of hb
  clear hb
  have cm := blk_cells (HH.out.below HL.out).hm
  have HQ := Ap.of (HH.out.below HL.out).hq
  go_wp2_with fail
  refine (slen0_calls q _ HQ.out).mono ?_
  rintro e w2 ⟨rfl, rfl⟩
  clear cm
  have cc := blk_cells (HH.out.below HL.out).hc
  go_wp2_with fail
  have HN : Ap _ := Ap.of (named_calls nm (some ⟨g, 0, none⟩) 1 k [m] (fun _ => nm) w2 (by obtain ⟨g', k', he, _, _, _, hr⟩ := (HH.out.below HL.out).one.row; simp only [Value.slice.injEq, Option.some.injEq, Addr.mk.injEq] at he; obtain ⟨⟨rfl, _⟩, _, rfl⟩ := he; exact hr) (fun x hx => by rw [List.mem_singleton] at hx; rw [hx]; exact made_name (HH.out.below HL.out).hm))
  refine HN.out.mono ?_
  rintro e w3 ⟨r, rfl, hr, hb⟩
  obtain rfl := named_one hr rfl
  have HL3 := Ap.of (bel_step HL.out hb)
  clear hr hb cc HN
  have cc := blk_cells (HH.out.below HL3.out).hc
  go_wp2_with fail
  refine (delete1_calls 0 g k cur w3 (blk_bel HG.out.1 HL3.out) HG.out.2.1 HG.out.2.2.1 HG.out.2.2.2).mono ?_
  rintro e w4 ⟨rfl, ⟨cur', hg4⟩, ho⟩
  have HG4 := Ap.of hg4
  have HO4 := Ap.of ho
  clear hg4 ho cc
  have H3 := Ap.of (HH.out.below HL3.out)
  have G3 := Ap.of (blk_bel HG.out.1 HL3.out)
  have bc4 := blk_only H3.out.hc HO4.out (blk_neT H3.out.hc G3.out (by decide))
  have cc4 := blk_cells bc4
  have fc4 := blk_free bc4
  have lc4 := blk_lt bc4
  have BC4 := Ap.of bc4
  clear bc4
  go_wp2_with fail
  obtain ⟨w5, hw5⟩ : ∃ w5, w5 = w4.setCell ⟨c, 2, none⟩ (.slice (some ⟨g, 0, none⟩) 0 k) := ⟨_, rfl⟩
  have bc5 := blk_set BC4.out 2 (.slice (some ⟨g, 0, none⟩) 0 k)
  rw [← hw5] at bc5
  have HO5 : Ap (Only (fun j => j = c ∨ j = g) w3 w5) := Ap.of (by rw [hw5]; exact (HO4.out.mono (fun i hi => .inr hi)).trans (Only.setCell w4 ⟨c, 2, none⟩ _) (fun i hi => .inl (.inl hi)))
  have BC5 := Ap.of (show w5.heap[c]? = some (.cells #[.pointer (some ⟨h, 0, none⟩), .slice none 0 0, .slice (some ⟨g, 0, none⟩) 0 k] 64 (0, 0)) by simpa using bc5)
  have ncg := fun {b : Nat} {cb : Array Value} {tb : TypeId} {fb : Nat × Nat} (hb : w3.heap[b]? = some (.cells cb tb fb)) (h1 : tb ≠ 64) (h2 : tb ≠ 92) => blk_only hb HO5.out (fun e => e.elim (fun e => blk_neT hb H3.out.hc h1 e) (fun e => blk_neT hb G3.out h2 e))
  have M5 := Ap.of (ncg H3.out.hm (by decide) (by decide))
  have T5 := Ap.of (ncg H3.out.ht (by decide) (by decide))
  have N5 := Ap.of (ncg H3.out.hn (by decide) (by decide))
  have HE5 := Ap.of (ncg H3.out.hh (by decide) (by decide))
  have GL5 := Ap.of (show g < w5.heap.size from Nat.lt_of_lt_of_le (blk_lt G3.out) HO5.out.size)
  rw [← hw5]
  clear bc5 ncg hw5 cc4 fc4 lc4
  go_wp2_with fail
  refine (all0_calls m t n 0 _ w5 M5.out rfl T5.out N5.out).mono ?_
  rintro e w6 ⟨rfl, hb⟩
  have HB6 := Ap.of hb
  clear hb
  go_wp2_with fail
  refine (clash0_calls none 0 w6).mono ?_
  rintro e w7 ⟨rfl, hb⟩
  have HB7 := Ap.of (bel_step (bel_step HB6.out hb) (bel_alloc w7 (.cells #[.string ⟨#[]⟩, .int .i64 0] 80)))
  clear hb
  have cc7 := blk_cells (blk_bel BC5.out HB7.out)
  have lc7 := blk_lt (blk_bel BC5.out HB7.out)
  obtain ⟨i0, hi, hzz⟩ := Option.map_eq_some_iff.1 Tryz.infoPB
  simp only [Prod.mk.injEq] at hzz
  have HI := Ap.of (And.intro hi hzz)
  clear hi hzz
  go_wp2_with (at_builtin; refine wp_append (K := KPtr) (tx := 92) (e := 92) (B := 0) (ok := fun _ => True) (okx := fun _ => True) (v := .slice none 0 0) (xs := []) (x := m) (cs := [.pointer (some ⟨m, 0, none⟩)]) rfl _ _ 62 i0 _ 8 rfl Tryz.underlying62 HI.out.1 HI.out.2.1 HI.out.2.2.1 HI.out.2.2.2 rfl (Nat.succ_pos 0) rfl rfl ?a1 ?a2 ?a3 ?a4 ?a5 ?a6 ?a7 ?a8 ?_)
  case a1 => exact Own.nil _ _ _ _ _
  case a2 => exact blk_new (by simp)
  case a3 => rfl
  case a4 => exact fun j _ => ⟨trivial, fun h => nomatch h⟩
  case a5 => exact fun _ _ => trivial
  case a6 => simp
  case a7 => simp
  case a8 => exact Nat.zero_le _
  intro v8 w8 hown honly
  have ON8 := Ap.of (Own.one1 hown)
  have HL8 := Ap.of (bel_step (bel_step HB7.out (bel_alloc _ (.cells #[.pointer (some ⟨m, 0, none⟩)] 92))) (honly.below (Nat.le_refl _) (fun i hi => by simp [Value.ownBlock] at hi)))
  obtain ⟨A8, c8, hv8, _, _⟩ := hown.slice
  rw [show ([m] : List Nat).length = 1 from rfl] at hv8
  subst hv8
  clear hown honly cc7 lc7
  have bc8 := blk_bel BC5.out HL8.out
  have cc8 := blk_cells bc8
  have fc8 := blk_free bc8
  have lc8 := blk_lt bc8
  have BC8 := Ap.of bc8
  clear bc8
  have bc9 := blk_set BC8.out 1 (.slice A8 1 c8)
  have BC9 := Ap.of (show (w8.setCell ⟨c, 1, none⟩ (.slice A8 1 c8)).heap[c]? = some (.cells #[.pointer (some ⟨h, 0, none⟩), .slice A8 1 c8, .slice (some ⟨g, 0, none⟩) 0 k] 64 (0, 0)) by simpa using bc9)
  have H9 := Ap.of (Only.setCell w8 ⟨c, 1, none⟩ (.slice A8 1 c8))
  clear bc9
  go_wp2_with fail
  go_ret
  have o9 : Only (fun j => j = c ∨ j = g) w3 (w8.setCell ⟨c, 1, none⟩ (.slice A8 1 c8)) := (HO5.out.trans (Only.of_below HL8.out (fun _ => False)) (fun i hi => hi.elim)).trans H9.out (fun i hi => .inl (.inl hi))
  refine ⟨rfl, ⟨.slice A8 1 c8, g, k, t, q, BC9.out, blk_only (blk_bel HE5.out HL8.out) H9.out (blk_neT (blk_bel HE5.out HL8.out) BC8.out (by decide)), ?_, Nat.lt_of_lt_of_le GL5.out (Nat.le_trans HL8.out.size H9.out.size), HG.out.2.2.2, blk_only (blk_bel M5.out HL8.out) H9.out (blk_neT (blk_bel M5.out HL8.out) BC8.out (by decide))⟩, ?_⟩
  · obtain ⟨g1, k1, cur1, h1, h2, h3⟩ := ON8.out
    exact ⟨g1, k1, cur1, h1, blk_only h2 H9.out (blk_neT h2 BC8.out (by decide)), h3⟩
  · exact (Only.of_below HL3.out (fun j => j = c ∨ (Value.slice (some ⟨g, 0, none⟩) 1 k).ownBlock = some j)).trans o9 (fun i hi => .inl (hi.elim .inl (fun e => .inr (by rw [e]; rfl))))
end Go.Proofs.YtecfaaeaipjlaaaGreatDoor
