/- roundelaylaw16.Meets: whether a value meets a filter of bytes, by the filter's value. -/
import Derived.Test.YtlomieopppndeaaGreatDoorMeets2
namespace Go.Proofs.YtlomieopppndeaaGreatDoor
open Go.RowKit

set_option maxRecDepth 100000 in
set_option maxHeartbeats 4000000 in
theorem meets_any (D : Nat) (v : Val) (la : Option Addr) (ln lc : Nat) (fa : Option Addr) (fn fc : Nat) (doc : Val) (la3 : Option Addr) (ln3 lc3 : Nat) (fa3 : Option Addr) (fn3 fc3 : Nat) (w : World) (p : Fld → Bool) (hv : (KV (D + 2)).R w (fun _ => True) v [.int .i64 v.kind, .int .i64 v.int, .string v.text, .slice la ln lc, .slice fa fn fc])
    (hone : ∀ (nm : ByteArray) (y : Val) (la2 : Option Addr) (ln2 lc2 : Nat) (fa2 : Option Addr) (fn2 fc2 : Nat) (W : World), Below w.heap.size w W → (nm, y) ∈ v.fields → (KV (D + 1)).R W (fun _ => True) y [.int .i64 y.kind, .int .i64 y.int, .string y.text, .slice la2 ln2 lc2, .slice fa2 fn2 fc2] → Calls Tryz.prog 60 #[.agg #[.string nm, .int .i64 y.kind, .int .i64 y.int, .string y.text, .slice la2 ln2 lc2, .slice fa2 fn2 fc2], .agg #[.int .i64 doc.kind, .int .i64 doc.int, .string doc.text, .slice la3 ln3 lc3, .slice fa3 fn3 fc3]] W fun e w' => e = .returned (.bool (p (nm, y))) ∧ Below W.heap.size W w') :
    Calls Tryz.prog 31 #[.agg #[.int .i64 v.kind, .int .i64 v.int, .string v.text, .slice la ln lc, .slice fa fn fc], .agg #[.int .i64 doc.kind, .int .i64 doc.int, .string doc.text, .slice la3 ln3 lc3, .slice fa3 fn3 fc3]] w fun e w' => e = .returned (.bool (v.fields.all p)) ∧ Below w.heap.size w w' := by
  have hf := (KV_parts hv).2.2.2.2
  have hlen := hf.length
  have hcap := hf.cap
  obtain ⟨res, hres⟩ : ∃ res : Bool, res = v.fields.all p := ⟨_, rfl⟩
  rw [← hres]
  have HRS := Ap.of hres
  have H := Ap.of hf
  have HLN := Ap.of hlen
  have HONE := Ap.of hone
  clear hres hf hlen hone hv
  generalize v.fields = xs at *
  generalize v.int = vi at *
  generalize v.text = vt at *
  generalize v.kind = vk at *
  go_enter Tryz.func31, Tryz.ntmps31
  go_wp2_with fail
  go_loopw [10] (fun vi wr => ∃ (k : Nat), k ≤ fn ∧ vi = .int .i64 k ∧ Ap ((xs.take k).all p = true) ∧ Ap (wr.heap[w.heap.size + 1]? = some (.cells #[.int .i64 doc.kind, .int .i64 doc.int, .string doc.text, .slice la3 ln3 lc3, .slice fa3 fn3 fc3] 28 (0, 0))) ∧ Ap (Below w.heap.size w wr)) (fun vi _ => fn - (intOf vi).toNat)
  case atStart => exact ⟨0, Nat.zero_le _, rfl, Ap.of (by simp), Ap.of (blk_new (by simp)), Ap.of (bel_step (bel_alloc _ _) (bel_alloc _ _))⟩
  case round =>
    obtain ⟨k, hk, rfl, HM, BD, BL⟩ := hrel
    by_cases hlt : k < fn
    · obtain ⟨g2, off, nm, y, la2, xn, lc2, fa2, fn2, fc2, rfl, hx, hnm, hr, c0, c1, c2, c3, c4, c5⟩ := fld_cells (Row.below H.out BL.out) hlt
      have HX := Ap.of hx
      have hba := bel_alloc wr (.cells #[.string nm, .int .i64 y.kind, .int .i64 y.int, .string y.text, .slice la2 xn lc2, .slice fa2 fn2 fc2] 37)
      have HC := Ap.of (HONE.out nm y la2 xn lc2 fa2 fn2 fc2 (wr.alloc (.cells #[.string nm, .int .i64 y.kind, .int .i64 y.int, .string y.text, .slice la2 xn lc2, .slice fa2 fn2 fc2] 37)) (bel_stepB BL.out BL.out.size hba) (List.mem_of_getElem? hx) (Knd.below hr hba))
      have HBA := Ap.of hba
      have HLT := Ap.of hlt
      have hlt' : (k : Int) < (fn : Int) := by omega
      have lc0 := World.block_lt_of_cell? _ _ c0
      have cd := blk_cells BD.out
      have ld := blk_lt BD.out
      generalize hq : p (nm, y) = q at *
      have HQ := Ap.of hq
      clear hx hr hnm hba hq
      go_wp2_with fail
      refine HC.out.mono ?_
      rintro e w3 ⟨rfl, hb⟩
      have BD3 := Ap.of (blk_bel (blk_bel BD.out HBA.out) hb)
      have HB := Ap.of (bel_stepB BL.out BL.out.size (bel_step HBA.out hb))
      clear hb
      cases q with
      | true =>
        go_wp2_with fail
        go_roundw
        case rel => exact ⟨k + 1, by have := HLT.out; omega, by go_num, Ap.of (by rw [take_all p HX.out, HM.out, HQ.out]; rfl), BD3, HB⟩
        case measure => have := HLT.out; simp [intOf]; omega
      | false =>
        go_wp2_with fail
        go_ret
        exact ⟨by rw [HRS.out, all_of_not p HX.out HQ.out]; rfl, HB.out⟩
    · obtain rfl : k = fn := by omega
      have hlt' : ¬ (k : Int) < (k : Int) := by omega
      go_wp2_with fail
      go_ret
      exact ⟨by
        have h := HM.out
        rw [← HLN.out, List.take_length] at h
        rw [HRS.out, h]; rfl, BL.out⟩

theorem and_named : namedI ⟨#[36, 97, 110, 100]⟩ = 0 := by decide +kernel
theorem or_named : namedI ⟨#[36, 111, 114]⟩ = 1 := by decide +kernel
/-- Whether a value meets a filter of bytes. -/
theorem meets_doc (doc : Val) (la3 : Option Addr) (ln3 lc3 : Nat) (fa3 : Option Addr) (fn3 fc3 : Nat) (N : Nat) (hF : Few N doc) : ∀ (d : Nat) (v : Val) (la : Option Addr) (ln lc : Nat) (fa : Option Addr) (fn fc : Nat) (w : World), 2 * d + 5 ≤ 11 → DocV d v → (KV 11).R w (fun _ => True) doc [.int .i64 doc.kind, .int .i64 doc.int, .string doc.text, .slice la3 ln3 lc3, .slice fa3 fn3 fc3] → (KV (2 * d + 5)).R w (fun _ => True) v [.int .i64 v.kind, .int .i64 v.int, .string v.text, .slice la ln lc, .slice fa fn fc] →
    Calls Tryz.prog 31 #[.agg #[.int .i64 v.kind, .int .i64 v.int, .string v.text, .slice la ln lc, .slice fa fn fc], .agg #[.int .i64 doc.kind, .int .i64 doc.int, .string doc.text, .slice la3 ln3 lc3, .slice fa3 fn3 fc3]] w fun e w' => e = .returned (.bool (meetD 11 doc d v)) ∧ Below w.heap.size w w'
  | 0, _, _, _, _, _, _, _, _, _, h, _, _ => h.elim
  | d + 1, v, la, ln, lc, fa, fn, fc, w, hd, hv, hx, hR => by
    obtain ⟨h5, _, _, hf⟩ := hv
    refine meets_any (2 * d + 5) v la ln lc fa fn fc doc la3 ln3 lc3 fa3 fn3 fc3 w (meetF 11 (meetD 11 doc d) doc) hR (fun nm y la2 ln2 lc2 fa2 fn2 fc2 W hW hm hy => ?_)
    rcases hf _ hm with ⟨hn, hl⟩ | ⟨hn, h4, _, hne, hlen, hdd⟩
    · have hj := (docn_leaf hn).1
      have e : meetF 11 (meetD 11 doc d) doc (nm, y) = leafD 11 (doc.find (partsOf nm)) y := by
        unfold meetF
        rw [if_neg (fun e => hj (.inl e)), if_neg (fun e => hj (.inr e))]
      rw [e]
      exact leaf_calls 8 nm y la2 ln2 lc2 fa2 fn2 fc2 doc la3 ln3 lc3 fa3 fn3 fc3 W N hF hn (Knd.below hx hW) hl (KV_le (by omega) _ _ _ _ hy)
    · have hr := (KV_parts hy).2.2.2.1.length
      have hl3 : y.list.length ≤ 3 := hlen
      have hone : ∀ (x : Val) (la : Option Addr) (ln lc : Nat) (fa : Option Addr) (fn fc : Nat) (W2 : World), Below W.heap.size W W2 → x ∈ y.list → (KV (2 * d + 5)).R W2 (fun _ => True) x [.int .i64 x.kind, .int .i64 x.int, .string x.text, .slice la ln lc, .slice fa fn fc] → Calls Tryz.prog 31 #[.agg #[.int .i64 x.kind, .int .i64 x.int, .string x.text, .slice la ln lc, .slice fa fn fc], .agg #[.int .i64 doc.kind, .int .i64 doc.int, .string doc.text, .slice la3 ln3 lc3, .slice fa3 fn3 fc3]] W2 fun e w' => e = .returned (.bool (meetD 11 doc d x)) ∧ Below W2.heap.size W2 w' :=
        fun x la ln lc fa fn fc W2 hW2 hxm hxR => meets_doc doc la3 ln3 lc3 fa3 fn3 fc3 N hF d x la ln lc fa fn fc W2 (by omega) (hdd x hxm) (Knd.below hx (bel_step hW hW2)) hxR
      rcases two_names hn with rfl | rfl
      · have e : meetF 11 (meetD 11 doc d) doc (⟨#[36, 97, 110, 100]⟩, y) = y.list.all (meetD 11 doc d) := by
          unfold meetF
          rw [if_pos and_named]
        rw [e]
        exact meets_join (2 * d + 4) _ y la2 ln2 lc2 fa2 fn2 fc2 doc la3 ln3 lc3 fa3 fn3 fc3 (fun _ => True) W (meetD 11 doc d) true rfl hne (by omega) hy hone
      · have e : meetF 11 (meetD 11 doc d) doc (⟨#[36, 111, 114]⟩, y) = y.list.any (meetD 11 doc d) := by
          unfold meetF
          rw [if_neg (show ¬ namedI (⟨#[36, 111, 114]⟩ : ByteArray) = 0 by rw [or_named]; decide), if_pos or_named]
        rw [e]
        exact meets_join (2 * d + 4) _ y la2 ln2 lc2 fa2 fn2 fc2 doc la3 ln3 lc3 fa3 fn3 fc3 (fun _ => True) W (meetD 11 doc d) false rfl hne (by omega) hy hone
end Go.Proofs.YtlomieopppndeaaGreatDoor
