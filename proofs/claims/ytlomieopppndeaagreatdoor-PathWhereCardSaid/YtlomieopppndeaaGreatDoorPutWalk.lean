/- path.Put: a value with another one at the end of a path. -/
import Derived.Test.YtlomieopppndeaaGreatDoorWithWalk
import Derived.Test.YtlomieopppndeaaGreatDoorFaultCode
import Derived.Test.YtlomieopppndeaaGreatDoorLawFind
namespace Go.Proofs.YtlomieopppndeaaGreatDoor
open Go.RowKit

theorem ErrAt.below' {w w' : World} {d : Nat} {c : Int} {v : Value} (h : ErrAt w d c v) (hb : Below w.heap.size w w') : ErrAt w' d c v := h.below hb
/-- fault.Wrap of an error. -/
theorem wrap_calls (d : Nat) (c : Int) (err : Value) (p : ByteArray) (w : World) (hE : ErrAt w d c err) : Calls Tryz.prog 63 #[err, .string p] w fun e w' => (∃ g : Nat, e = .returned (.iface 122 (.pointer (some ⟨g, 0, none⟩))) ∧ ErrAt w' (d + 1) c (.iface 122 (.pointer (some ⟨g, 0, none⟩)))) ∧ Below w.heap.size w w' := by
  obtain ⟨te, ue, rfl⟩ := hE.shape
  have HE := Ap.of hE
  clear hE
  go_enter Tryz.func63, Tryz.ntmps63
  go_wp2_with fail
  go_ret
  exact ⟨⟨_, rfl, _, _, _, rfl, blk_new rfl, HE.out.below (bel_alloc _ _)⟩, bel_alloc _ _⟩

/-- What path.Put tells. -/
def PutP (d : Nat) (w : World) (ok : Nat → Prop) (o : Option Val) (e : Ending) (w' : World) : Prop :=
  (∃ y, o = some y ∧ ∃ (la : Option Addr) (ln lc : Nat) (fa : Option Addr) (fn fc : Nat), e = .returned (.tuple #[.agg #[.int .i64 y.kind, .int .i64 y.int, .string y.text, .slice la ln lc, .slice fa fn fc], .nilIface]) ∧
    (KV d).R w' (fun k => ok k ∨ w.heap.size ≤ k) y [.int .i64 y.kind, .int .i64 y.int, .string y.text, .slice la ln lc, .slice fa fn fc] ∧ Below w.heap.size w w') ∨
  (o = none ∧ ∃ (g m : Nat), e = .returned (.tuple #[.agg #[.int .i64 0, .int .i64 0, .string ⟨#[]⟩, .slice none 0 0, .slice none 0 0], .iface 122 (.pointer (some ⟨g, 0, none⟩))]) ∧ ErrAt w' m 6 (.iface 122 (.pointer (some ⟨g, 0, none⟩))) ∧ Below w.heap.size w w')

/-- The same in one form. -/
def PutQ (d : Nat) (w : World) (ok : Nat → Prop) (o : Option Val) (e : Ending) (w' : World) : Prop :=
  ∃ (k i : Int) (t : ByteArray) (la : Option Addr) (ln lc : Nat) (fa : Option Addr) (fn fc : Nat) (er : Value), e = .returned (.tuple #[.agg #[.int .i64 k, .int .i64 i, .string t, .slice la ln lc, .slice fa fn fc], er]) ∧ Below w.heap.size w w' ∧
    ((∃ y, o = some y ∧ k = y.kind ∧ i = y.int ∧ t = y.text ∧ er = .nilIface ∧ (KV d).R w' (fun k => ok k ∨ w.heap.size ≤ k) y [.int .i64 y.kind, .int .i64 y.int, .string y.text, .slice la ln lc, .slice fa fn fc]) ∨
     (o = none ∧ ∃ g m : Nat, er = .iface 122 (.pointer (some ⟨g, 0, none⟩)) ∧ ErrAt w' m 6 (.iface 122 (.pointer (some ⟨g, 0, none⟩)))))
theorem PutP.one {d : Nat} {w : World} {ok : Nat → Prop} {o : Option Val} {e : Ending} {w' : World} (h : PutP d w ok o e w') : PutQ d w ok o e w' := by
  rcases h with ⟨y, ho, la, ln, lc, fa, fn, fc, he, hr, hb⟩ | ⟨ho, g, m, he, hE, hb⟩
  · exact ⟨_, _, _, _, _, _, _, _, _, _, he, hb, .inl ⟨y, ho, rfl, rfl, rfl, rfl, hr⟩⟩
  · exact ⟨_, _, _, _, _, _, _, _, _, _, he, hb, .inr ⟨ho, g, m, rfl, hE⟩⟩
theorem KV_obj (w : World) (ok : Nat → Prop) (d : Nat) : (KV (d + 1)).R w ok Val.obj [.int .i64 5, .int .i64 0, .string ⟨#[]⟩, .slice none 0 0, .slice none 0 0] :=
  ⟨none, 0, 0, none, 0, 0, rfl, ⟨by decide, by decide⟩, ⟨by decide, by decide⟩, by decide, Row.nil _ _ _, Row.nil _ _ _⟩

def PutS (m : Nat) : Prop := ∀ (E : Nat) (x v : Val) (l : List ByteArray) (N : Nat) (la : Option Addr) (ln lc : Nat) (fa : Option Addr) (fn fc : Nat) (la2 : Option Addr) (ln2 lc2 : Nat) (fa2 : Option Addr) (fn2 fc2 : Nat) (A : Option Addr) (n c : Nat) (ok : Nat → Prop) (w : World),
  l.length = m → Few N x → N ≤ 1000 → FinG w → Row KStr w ok A n c l →
  (KV (E + m + 1)).R w ok x [.int .i64 x.kind, .int .i64 x.int, .string x.text, .slice la ln lc, .slice fa fn fc] → (KV (E + 1)).R w ok v [.int .i64 v.kind, .int .i64 v.int, .string v.text, .slice la2 ln2 lc2, .slice fa2 fn2 fc2] →
  Calls Tryz.prog 38 #[.agg #[.int .i64 x.kind, .int .i64 x.int, .string x.text, .slice la ln lc, .slice fa fn fc], .slice A n c, .agg #[.int .i64 v.kind, .int .i64 v.int, .string v.text, .slice la2 ln2 lc2, .slice fa2 fn2 fc2]] w (PutP (E + m + 1) w ok (x.put l v))

set_option maxRecDepth 100000 in
set_option maxHeartbeats 2000000 in
theorem put_nil : PutS 0 := by
  intro E x v l N la ln lc fa fn fc la2 ln2 lc2 fa2 fn2 fc2 A n c ok w hl _ _ _ hrow hx hv
  obtain rfl : l = [] := List.length_eq_zero_iff.1 hl
  obtain rfl : n = 0 := by rw [← hrow.length]; rfl
  have HV := Ap.of ((KV (E + 1)).bound hv)
  clear hx hv hrow hl
  have hput : x.put [] v = some v := rfl
  rw [hput]
  clear hput
  generalize x.kind = xk at *
  generalize x.int = xi at *
  generalize x.text = xt at *
  go_enter Tryz.func38, Tryz.ntmps38
  go_wp2_with fail
  exact bodyPost_ret (v := .tuple #[.agg #[.int .i64 v.kind, .int .i64 v.int, .string v.text, .slice la2 ln2 lc2, .slice fa2 fn2 fc2], .nilIface]) (by simp [results, Tryz.results38, go_sem]) rfl
    (.inl ⟨v, rfl, la2, ln2, lc2, fa2, fn2, fc2, rfl, (KV (E + 1)).mono (fun k hk => .inl hk.1) (Knd.below (Knd.below (Knd.below HV.out (bel_alloc _ _)) (bel_alloc _ _)) (bel_alloc _ _)), bel_step (bel_step (bel_alloc _ _) (bel_alloc _ _)) (bel_alloc _ _)⟩)

theorem bel_after {W0 w3 : World} (h : Below W0.drew.heap.size W0.drew w3) (o : Obj) : Below W0.heap.size W0 (w3.alloc o) := (bel_stepB (Below.drew (Below.refl _ W0)) (Nat.le_refl _) h).alloc h.size o
theorem bel_set5 {W0 W : World} (h : Below W0.heap.size W0 W) (v0 v1 v2 v3 v4 : Value) : Below W0.heap.size W0 (((((W.setCell ⟨W0.heap.size, 0, none⟩ v0).setCell ⟨W0.heap.size, 1, none⟩ v1).setCell ⟨W0.heap.size, 2, none⟩ v2).setCell ⟨W0.heap.size, 3, none⟩ v3).setCell ⟨W0.heap.size, 4, none⟩ v4) :=
  Below.setCell (Below.setCell (Below.setCell (Below.setCell (Below.setCell h (Nat.le_refl _) _) (Nat.le_refl _) _) (Nat.le_refl _) _) (Nat.le_refl _) _) (Nat.le_refl _) _
theorem only_cell {S : Nat → Prop} {W W' : World} (h : Only S W W') {q : Addr} (hq : q.block < W.heap.size) (hn : ¬ S q.block) : W'.cell? q = W.cell? q := by
  have := h.block q.block hq hn
  simp only [World.cell?, this]
theorem gb_set50 {W : World} {g n : Nat} {t : TypeId} (h : GB g n t W) (hn : 5 ≤ n) (v0 v1 v2 v3 v4 : Value) : GB g n t (((((W.setCell ⟨g, 0, none⟩ v0).setCell ⟨g, 1, none⟩ v1).setCell ⟨g, 2, none⟩ v2).setCell ⟨g, 3, none⟩ v3).setCell ⟨g, 4, none⟩ v4) := by
  have := GB.set5 (o := 0) h (by omega) v0 v1 v2 v3 v4
  simpa using this
/-- l[1:]. -/
theorem row_tail {A : Option Addr} {n c : Nat} {p : ByteArray} {r : List ByteArray} {w : World} {ok : Nat → Prop} (h : Row KStr w ok A n c (p :: r)) : ∃ g off A' c', A = some ⟨g, off, none⟩ ∧ n = r.length + 1 ∧ p.size ≤ 281474976710656 ∧ g < w.heap.size ∧ w.cell? ⟨g, off, none⟩ = some (.string p) ∧
    (∀ W : World, (Instr.slice 30 (.slice A n c) (some (.int .i64 1)) none none).run Tryz.prog W = .ok (.slice A' r.length c') W) ∧ ∀ (W : World), Row KStr W ok A n c (p :: r) → Row KStr W ok A' r.length c' r := by
  have hlen := h.length
  have hn : 0 < n := by rw [← hlen]; simp
  obtain ⟨g, off, s, hA, hs, hsz, hc⟩ := str_cells h hn
  have hcap := h.cap
  subst hA
  have hs' : s = p := by simpa using hs.symm
  subst hs'
  obtain rfl : n = r.length + 1 := by rw [← hlen]; simp
  have hlg : g < w.heap.size := World.block_lt_of_cell? w _ hc
  rw [Nat.add_zero] at hc
  by_cases h1 : c = 1
  · have hr : r = [] := List.length_eq_zero_iff.1 (by omega)
    subst hr
    refine ⟨g, off, some ⟨g, off, none⟩, 0, rfl, rfl, hsz, hlg, hc, fun W => ?_, fun W hW => ?_⟩
    · subst h1
      simp [Instr.slice, Instr.sliceBounds, go_sem]
    · rcases hW with ⟨e, _⟩ | ⟨g', off', e, _, _, _, h5, h6, _⟩
      · cases e
      · injection e with e
        injection e with e1 e2 _
        subst e1 e2
        exact .inr ⟨_, _, rfl, rfl, by simp, by unfold maxLen; omega, h5, h6, fun i x hx => by simp at hx⟩
  · refine ⟨g, off, some ⟨g, off + 1, none⟩, c - 1, rfl, rfl, hsz, hlg, hc, fun W => ?_, fun W hW => ?_⟩
    · have hl : r.length + 1 ≤ 9223372036854775807 := by omega
      simp [Instr.slice, Instr.sliceBounds, go_sem]
      rw [if_pos (by omega), if_neg h1]
    · rcases hW with ⟨e, _⟩ | ⟨g', off', e, _, h3, h4, h5, h6, h7⟩
      · cases e
      · injection e with e
        injection e with e1 e2 _
        subst e1 e2
        refine .inr ⟨_, _, rfl, rfl, by omega, by omega, h5, h6, fun i x hx => ?_⟩
        obtain ⟨cs, a, b⟩ := h7 (i + 1) x (by simpa using hx)
        refine ⟨cs, a, ?_⟩
        rw [show off + 1 + i * KStr.sz = off + (i + 1) * KStr.sz by show off + 1 + i * 1 = off + (i + 1) * 1; omega]
        exact b

set_option maxRecDepth 100000 in
set_option maxHeartbeats 6000000 in
theorem put_cons (m : Nat) (ih : PutS m) : PutS (m + 1) := by
  intro E x v l N la ln lc fa fn fc la2 ln2 lc2 fa2 fn2 fc2 A n c ok w hl hF hN G hrow hx hv
  obtain ⟨p, r, rfl⟩ : ∃ p r, l = p :: r := by cases l with | nil => cases hl | cons p r => exact ⟨p, r, rfl⟩
  have hlr : r.length = m := by simpa using hl
  subst hlr
  have hrow8 := Row.bound hrow
  obtain ⟨g, off, A', c', rfl, rfl, hpsz, hlg, hpc, hcut, htail⟩ := row_tail hrow8
  have hb3 := bel_step (bel_step (bel_alloc w (.cells #[.int .i64 x.kind, .int .i64 x.int, .string x.text, .slice la ln lc, .slice fa fn fc] 28)) (bel_alloc _ (.cells #[.int .i64 v.kind, .int .i64 v.int, .string v.text, .slice la2 ln2 lc2, .slice fa2 fn2 fc2] 28))) (bel_alloc _ (.cells #[.int .i64 0, .int .i64 0, .string ⟨#[]⟩, .slice none 0 0, .slice none 0 0] 28))
  have hstep := fun W (hW : Below w.heap.size w W) => step_calls (E + r.length) x la ln lc fa fn fc p hpsz (fun k => ok k ∧ k < w.heap.size) W (G.below hW) hF.len (Knd.below ((KV (E + r.length + 2)).bound hx) hW)
  have hih : ∀ (z : Val) (za : Option Addr) (zn zc : Nat) (fa3 : Option Addr) (fn3 fc3 : Nat) (W : World), Below w.heap.size w W → Few N z → (KV (E + r.length + 1)).R W (fun k => ok k ∧ k < w.heap.size) z [.int .i64 z.kind, .int .i64 z.int, .string z.text, .slice za zn zc, .slice fa3 fn3 fc3] →
      Calls Tryz.prog 38 #[.agg #[.int .i64 z.kind, .int .i64 z.int, .string z.text, .slice za zn zc, .slice fa3 fn3 fc3], .slice A' r.length c', .agg #[.int .i64 v.kind, .int .i64 v.int, .string v.text, .slice la2 ln2 lc2, .slice fa2 fn2 fc2]] W (PutQ (E + r.length + 1) W (fun k => ok k ∧ k < w.heap.size) (z.put r v)) := fun z za zn zc fa3 fn3 fc3 W hW hz hR =>
    (ih E z v r N za zn zc fa3 fn3 fc3 la2 ln2 lc2 fa2 fn2 fc2 A' r.length c' _ W rfl hz hN (G.below hW) (htail W (Row.below hrow8 hW)) hR (Knd.below ((KV (E + 1)).bound hv) hW)).mono fun e w' h => h.one
  have hwith : ∀ (z : Val) (za : Option Addr) (zn zc : Nat) (fa3 : Option Addr) (fn3 fc3 : Nat) (B : Nat) (W : World), Below w.heap.size w W → x.has p → (KV (E + r.length + 1)).R W (fun k => (ok k ∧ k < w.heap.size) ∨ B ≤ k) z [.int .i64 z.kind, .int .i64 z.int, .string z.text, .slice za zn zc, .slice fa3 fn3 fc3] →
      Calls Tryz.prog 64 #[.agg #[.int .i64 x.kind, .int .i64 x.int, .string x.text, .slice la ln lc, .slice fa fn fc], .string p, .agg #[.int .i64 z.kind, .int .i64 z.int, .string z.text, .slice za zn zc, .slice fa3 fn3 fc3]] W (RetV (E + r.length + 2) W (fun k => (ok k ∧ k < w.heap.size) ∨ B ≤ k) (x.with p z)) := fun z za zn zc fa3 fn3 fc3 B W hW hh hR =>
    with_calls (E + r.length) x z la ln lc fa fn fc za zn zc fa3 fn3 fc3 p (fun k => (ok k ∧ k < w.heap.size) ∨ B ≤ k) W hh hpsz (G.below hW) hF.len (Nat.le_trans hF.flen hN) ((KV (E + r.length + 2)).mono (fun k hk => .inl hk) (Knd.below ((KV (E + r.length + 2)).bound hx) hW)) hR
  have HIH := Ap.of hih
  have HWI := Ap.of hwith
  clear hih hwith
  have HST := Ap.of hstep
  have HX := Ap.of hx
  have HV := Ap.of hv
  have HRW := Ap.of hrow
  have HTL := Ap.of htail
  have HF := Ap.of hF
  have HP := Ap.of hpsz
  have IH := Ap.of ih
  have GG := Ap.of G
  have HB3 := Ap.of hb3
  have HPC := Ap.of hpc
  have bx := blk_old (o' := .cells #[.int .i64 0, .int .i64 0, .string ⟨#[]⟩, .slice none 0 0, .slice none 0 0] 28) (blk_old (o' := .cells #[.int .i64 v.kind, .int .i64 v.int, .string v.text, .slice la2 ln2 lc2, .slice fa2 fn2 fc2] 28) (blk_new (w := w) (k := w.heap.size) (o := .cells #[.int .i64 x.kind, .int .i64 x.int, .string x.text, .slice la ln lc, .slice fa fn fc] 28) rfl))
  have bv := blk_old (o' := .cells #[.int .i64 0, .int .i64 0, .string ⟨#[]⟩, .slice none 0 0, .slice none 0 0] 28) (blk_new (w := w.alloc (.cells #[.int .i64 x.kind, .int .i64 x.int, .string x.text, .slice la ln lc, .slice fa fn fc] 28)) (k := w.heap.size + 1) (o := .cells #[.int .i64 v.kind, .int .i64 v.int, .string v.text, .slice la2 ln2 lc2, .slice fa2 fn2 fc2] 28) (by simp))
  have br := blk_new (w := (w.alloc (.cells #[.int .i64 x.kind, .int .i64 x.int, .string x.text, .slice la ln lc, .slice fa fn fc] 28)).alloc (.cells #[.int .i64 v.kind, .int .i64 v.int, .string v.text, .slice la2 ln2 lc2, .slice fa2 fn2 fc2] 28)) (k := w.heap.size + 1 + 1) (o := .cells #[.int .i64 0, .int .i64 0, .string ⟨#[]⟩, .slice none 0 0, .slice none 0 0] 28) (by simp)
  have HBX := Ap.of bx
  have HBV := Ap.of bv
  have HBR := Ap.of br
  have hcell0 := (hb3.cell (p := ⟨g, off, none⟩) hlg).trans hpc
  have HC0 := Ap.of hcell0
  have hne : ((r.length : Int) + 1 == 0) = false := by simp; omega
  have hks : ∀ W, Below (((w.alloc (.cells #[.int .i64 x.kind, .int .i64 x.int, .string x.text, .slice la ln lc, .slice fa fn fc] 28)).alloc (.cells #[.int .i64 v.kind, .int .i64 v.int, .string v.text, .slice la2 ln2 lc2, .slice fa2 fn2 fc2] 28)).alloc (.cells #[.int .i64 0, .int .i64 0, .string ⟨#[]⟩, .slice none 0 0, .slice none 0 0] 28)).heap.size (((w.alloc (.cells #[.int .i64 x.kind, .int .i64 x.int, .string x.text, .slice la ln lc, .slice fa fn fc] 28)).alloc (.cells #[.int .i64 v.kind, .int .i64 v.int, .string v.text, .slice la2 ln2 lc2, .slice fa2 fn2 fc2] 28)).alloc (.cells #[.int .i64 0, .int .i64 0, .string ⟨#[]⟩, .slice none 0 0, .slice none 0 0] 28)) W → (Below (((w.alloc (.cells #[.int .i64 x.kind, .int .i64 x.int, .string x.text, .slice la ln lc, .slice fa fn fc] 28)).alloc (.cells #[.int .i64 v.kind, .int .i64 v.int, .string v.text, .slice la2 ln2 lc2, .slice fa2 fn2 fc2] 28)).alloc (.cells #[.int .i64 0, .int .i64 0, .string ⟨#[]⟩, .slice none 0 0, .slice none 0 0] 28)).heap.size (((w.alloc (.cells #[.int .i64 x.kind, .int .i64 x.int, .string x.text, .slice la ln lc, .slice fa fn fc] 28)).alloc (.cells #[.int .i64 v.kind, .int .i64 v.int, .string v.text, .slice la2 ln2 lc2, .slice fa2 fn2 fc2] 28)).alloc (.cells #[.int .i64 0, .int .i64 0, .string ⟨#[]⟩, .slice none 0 0, .slice none 0 0] 28)) W ∧
      W.cell? ⟨w.heap.size, 0, none⟩ = some (.int .i64 x.kind) ∧ W.cell? ⟨w.heap.size, 1, none⟩ = some (.int .i64 x.int) ∧ W.cell? ⟨w.heap.size, 2, none⟩ = some (.string x.text) ∧ W.cell? ⟨w.heap.size, 3, none⟩ = some (.slice la ln lc) ∧ W.cell? ⟨w.heap.size, 4, none⟩ = some (.slice fa fn fc) ∧ W.cell? ⟨g, off, none⟩ = some (.string p)) := fun W ho => by
    have e1 := blk_cells (blk_bel bx ho)
    refine ⟨ho, e1 0, e1 1, e1 2, e1 3, e1 4, (ho.cell (p := ⟨g, off, none⟩) (by simp; omega)).trans hcell0⟩
  have KS := Ap.of hks
  clear hks hstep hx hv hrow hrow8 htail hF hpsz ih G hb3 hpc bx bv br hcell0 hl
  generalize hp1 : x.put (p :: r) v = res at *
  have HRES := Ap.of hp1
  clear hp1
  generalize hxk : x.kind = xk at *
  generalize hxi : x.int = xi at *
  generalize hxt : x.text = xt at *
  generalize hvk : v.kind = vk at *
  generalize hvi : v.int = vi at *
  generalize hvt : v.text = vt at *
  go_enter Tryz.func38, Tryz.ntmps38
  go_wp2_with fail
  generalize hW0 : (((w.alloc (.cells #[.int .i64 xk, .int .i64 xi, .string xt, .slice la ln lc, .slice fa fn fc] 28)).alloc (.cells #[.int .i64 vk, .int .i64 vi, .string vt, .slice la2 ln2 lc2, .slice fa2 fn2 fc2] 28)).alloc (.cells #[.int .i64 0, .int .i64 0, .string ⟨#[]⟩, .slice none 0 0, .slice none 0 0] 28)) = W0 at *
  have HSZ := Ap.of (show W0.heap.size = w.heap.size + 3 by rw [← hW0]; simp)
  clear hW0
  have HOB := Ap.of (show ∀ W, Below W0.heap.size W0 W → Below w.heap.size w W from fun W h => bel_step HB3.out h)
  go_region_held3 (fun W => Below W0.heap.size W0 W ∧
      W.cell? ⟨w.heap.size, 0, none⟩ = some (.int .i64 xk) ∧ W.cell? ⟨w.heap.size, 1, none⟩ = some (.int .i64 xi) ∧ W.cell? ⟨w.heap.size, 2, none⟩ = some (.string xt) ∧ W.cell? ⟨w.heap.size, 3, none⟩ = some (.slice la ln lc) ∧ W.cell? ⟨w.heap.size, 4, none⟩ = some (.slice fa fn fc) ∧ W.cell? ⟨g, off, none⟩ = some (.string p))
    (first
      | with_reducible assumption
      | (with_reducible (refine KS.out _ ?_; apply Below.drew; exact Below.refl _ _))
      | (with_reducible (refine KS.out _ ?_; apply Below.drew; apply Below.alloc; exact Below.refl _ _; exact Nat.le_refl _))
      | (with_reducible (refine KS.out _ ?_; apply bel_stepB _ _ hb3; exact And.left (by assumption); exact (Below.size (And.left (by assumption)))))
      | (with_reducible (refine KS.out _ ?_; apply Below.alloc; exact (And.left (by assumption)); exact (Below.size (And.left (by assumption)))))
      | (with_reducible (refine KS.out _ ?_; apply bel_after; assumption))
      | (with_reducible (refine KS.out _ ?_; apply bel_set5; exact (And.left (by assumption)))))
    (first
      | (go_at_call 42; refine (HST.out _ (HOB.out _ (And.left (by assumption)))).mono ?_; rintro e w3 ⟨y, ya, yn, yc, za, zn, zc, rfl, hy, hr, hb3⟩; have HY := Ap.of hy; have HR := Ap.of hr; clear hy hr; (first | (have c8 := blk_cells (blk_bel (blk_draw (blk_new (w := W0) (k := W0.heap.size) (o := .cells #[.int .i64 0, .int .i64 0, .string ⟨#[]⟩, .slice none 0 0, .slice none 0 0] 28) rfl)) hb3); have f8 := blk_free (blk_bel (blk_draw (blk_new (w := W0) (k := W0.heap.size) (o := .cells #[.int .i64 0, .int .i64 0, .string ⟨#[]⟩, .slice none 0 0, .slice none 0 0] 28) rfl)) hb3); have l8 := blk_lt (blk_bel (blk_draw (blk_new (w := W0) (k := W0.heap.size) (o := .cells #[.int .i64 0, .int .i64 0, .string ⟨#[]⟩, .slice none 0 0, .slice none 0 0] 28) rfl)) hb3)) | skip)))
  all_goals (first
    | (have hb8 := blk_set5 (blk_bel (blk_draw (blk_new (w := W0) (k := W0.heap.size) (o := .cells #[.int .i64 0, .int .i64 0, .string ⟨#[]⟩, .slice none 0 0, .slice none 0 0] 28) rfl)) hb3) (.int .i64 y.kind) (.int .i64 y.int) (.string y.text) (.slice ya yn yc) (.slice za zn zc)
       have hB8 := bel_set5 (bel_stepB ((Below.alloc (Below.refl _ W0) (Nat.le_refl _) (.cells #[.int .i64 0, .int .i64 0, .string ⟨#[]⟩, .slice none 0 0, .slice none 0 0] 28)).drew) (by simp) hb3) (.int .i64 y.kind) (.int .i64 y.int) (.string y.text) (.slice ya yn yc) (.slice za zn zc)
       have hR8 := Knd.only HR.out (only5 w3 W0.heap.size (.int .i64 y.kind) (.int .i64 y.int) (.string y.text) (.slice ya yn yc) (.slice za zn zc)) (fun k hk e => by have := hk.2; have := HSZ.out; omega)
       generalize (((((w3.setCell ⟨W0.heap.size, 0, none⟩ (.int .i64 y.kind)).setCell ⟨W0.heap.size, 1, none⟩ (.int .i64 y.int)).setCell ⟨W0.heap.size, 2, none⟩ (.string y.text)).setCell ⟨W0.heap.size, 3, none⟩ (.slice ya yn yc)).setCell ⟨W0.heap.size, 4, none⟩ (.slice za zn zc)) = W3 at hb8 hB8 hR8 ⊢
       have HN8 : ∃ n, W0.heap.size ≤ n ∧ n = W0.heap.size := ⟨_, Nat.le_refl _, rfl⟩
       obtain ⟨n8, hn8, he8⟩ := HN8
       rw [← he8] at hb8 ⊢
       clear he8)
    | (have hb8 := blk_new (w := w3) (k := w3.heap.size) (o := .cells #[.int .i64 y.kind, .int .i64 y.int, .string y.text, .slice ya yn yc, .slice za zn zc] 28) rfl
       have hB8 := bel_after hb3 (.cells #[.int .i64 y.kind, .int .i64 y.int, .string y.text, .slice ya yn yc, .slice za zn zc] 28)
       have hR8 := Knd.below HR.out (bel_alloc w3 (.cells #[.int .i64 y.kind, .int .i64 y.int, .string y.text, .slice ya yn yc, .slice za zn zc] 28))
       have HN8 : ∃ n, W0.heap.size ≤ n ∧ n = w3.heap.size := ⟨_, hb3.size, rfl⟩
       generalize w3.alloc (.cells #[.int .i64 y.kind, .int .i64 y.int, .string y.text, .slice ya yn yc, .slice za zn zc] 28) = W3 at hb8 hB8 hR8 ⊢
       obtain ⟨n8, hn8, he8⟩ := HN8
       rw [← he8] at hb8 ⊢
       clear he8))
  all_goals (
    have bx3 := blk_bel HBX.out hB8
    have bv3 := blk_bel HBV.out hB8
    have br3 := blk_bel HBR.out hB8
    have cp3 : W3.cell? ⟨g, off, none⟩ = some (.string p) := ((HOB.out _ hB8).cell (p := ⟨g, off, none⟩) hlg).trans HPC.out
    have HB8 := Ap.of hB8
    have HR8 := Ap.of hR8
    have HN8 := Ap.of hn8
    have HBB := Ap.of (And.intro hb8 (And.intro bx3 (And.intro bv3 br3)))
    have dx := blk_cells bx3
    have lx := blk_lt bx3
    have dv := blk_cells bv3
    have lv := blk_lt bv3
    have dr := blk_cells br3
    have fr := blk_free br3
    have lr := blk_lt br3
    have d8 := blk_cells hb8
    have f8 := blk_free hb8
    have l8 := blk_lt hb8
    clear hb8 bx3 bv3 br3 hB8 hR8 hn8 hb3
    cases hst : x.step p
    case' none =>
      have HSP := Ap.of hst
      clear hst
      by_cases hk5 : xk = 5
      case neg =>
        have e5 : (xk == 5) = false := by simp [hk5]
        have HK5 := Ap.of hk5
        clear hk5
        go_wp2_with fail
        refine (new_calls 6 (by decide) _ _).mono ?_
        rintro e w4 ⟨rfl, rfl⟩
        go_wp2_with fail
        have hs4 := only5 W3 (w.heap.size + 1 + 1) (.int .i64 0) (.int .i64 0) (.string ⟨#[]⟩) (.slice none 0 0) (.slice none 0 0)
        have hsz4 := hs4.size
        exact bodyPost_ret (v := .tuple #[.agg #[.int .i64 0, .int .i64 0, .string ⟨#[]⟩, .slice none 0 0, .slice none 0 0], .iface 122 (.pointer (some ⟨W3.heap.size, 0, none⟩))]) (by simp [results, Tryz.results38, go_sem, dr, lr]) rfl
          (.inr ⟨by rw [← HRES.out]; simp only [Val.put]; rw [HSP.out]; simp only [hxk]; rw [if_neg HK5.out], _, 1, rfl, ⟨_, _, _, rfl, blk_new (by simp), rfl⟩, bel_step (bel_only (HOB.out _ HB8.out) (HOB.out _ HB8.out).size hs4 (fun j he => by omega)) (bel_alloc _ _)⟩)
      have e5 : (xk == 5) = true := by simp [hk5]
      have HK5 := Ap.of hk5
      clear hk5
      go_wp2_with fail
      have hb4 := blk_set5 HBB.out.1 (.int .i64 5) (.int .i64 0) (.string ⟨#[]⟩) (.slice none 0 0) (.slice none 0 0)
      have hs4 := only5 W3 n8 (.int .i64 5) (.int .i64 0) (.string ⟨#[]⟩) (.slice none 0 0) (.slice none 0 0)
      have hB4 := bel_only HB8.out HB8.out.size hs4 (fun j he => by have := HN8.out; omega)
      clear dx lx dv lv dr fr lr d8 f8 l8 cp3
      generalize (((((W3.setCell ⟨n8, 0, none⟩ (.int .i64 5)).setCell ⟨n8, 1, none⟩ (.int .i64 0)).setCell ⟨n8, 2, none⟩ (.string ⟨#[]⟩)).setCell ⟨n8, 3, none⟩ (.slice none 0 0)).setCell ⟨n8, 4, none⟩ (.slice none 0 0)) = W4 at hb4 hs4 hB4 ⊢
      have H4 : Ap (∃ (z : Val) (za : Option Addr) (zn zc : Nat) (fa3 : Option Addr) (fn3 fc3 : Nat), W4.heap[n8]? = some (.cells #[.int .i64 z.kind, .int .i64 z.int, .string z.text, .slice za zn zc, .slice fa3 fn3 fc3] 28 (0, 0)) ∧ (KV (E + r.length + 1)).R W4 (fun k => ok k ∧ k < w.heap.size) z [.int .i64 z.kind, .int .i64 z.int, .string z.text, .slice za zn zc, .slice fa3 fn3 fc3] ∧ Below W0.heap.size W0 W4 ∧ Few N z ∧ x.has p ∧ res = (z.put r v).map (x.with p)) := Ap.of ⟨Val.obj, none, 0, 0, none, 0, 0, hb4, KV_obj _ _ _, hB4, few_obj N, .inl (hxk.trans HK5.out), by rw [← HRES.out]; simp only [Val.put]; rw [HSP.out]; simp only [hxk, HK5.out, if_true]⟩
      clear e5 HK5
      clear hb4 hs4 hB4
    case' some y' =>
      have HSP := Ap.of hst
      clear hst
      go_wp2_with fail
      have hz : y = y' := by rw [HY.out, HSP.out]; rfl
      clear dx lx dv lv dr fr lr d8 f8 l8 cp3
      have H4 : Ap (∃ (z : Val) (za : Option Addr) (zn zc : Nat) (fa3 : Option Addr) (fn3 fc3 : Nat), W3.heap[n8]? = some (.cells #[.int .i64 z.kind, .int .i64 z.int, .string z.text, .slice za zn zc, .slice fa3 fn3 fc3] 28 (0, 0)) ∧ (KV (E + r.length + 1)).R W3 (fun k => ok k ∧ k < w.heap.size) z [.int .i64 z.kind, .int .i64 z.int, .string z.text, .slice za zn zc, .slice fa3 fn3 fc3] ∧ Below W0.heap.size W0 W3 ∧ Few N z ∧ x.has p ∧ res = (z.put r v).map (x.with p)) := Ap.of ⟨y, ya, yn, yc, za, zn, zc, HBB.out.1, HR8.out, HB8.out, by rw [hz]; exact HF.out.step HSP.out, .inr (by rw [HSP.out]; rfl), by rw [← HRES.out, hz]; simp only [Val.put]; rw [HSP.out]⟩
      clear hz
      obtain ⟨W4, hW4⟩ : ∃ W4, W4 = W3 := ⟨_, rfl⟩
      rw [← hW4] at H4 ⊢
      clear hW4)
  all_goals (
    obtain ⟨z, zla, zln, zlc, zfa, zfn, zfc, hb4, hz4, hB4, hFz, hhas, hres⟩ := H4.out
    clear H4 HBB
    have HZ := Ap.of hz4
    have HHAS := Ap.of hhas
    have HRS := Ap.of hres
    have HFZ := Ap.of hFz
    have HOB4 := Ap.of (show ∀ W, Below W4.heap.size W4 W → Below w.heap.size w W from fun W h => HOB.out _ (bel_stepB hB4 hB4.size h))
    have hks8 : ∀ W, Below W4.heap.size W4 W → (Below W4.heap.size W4 W ∧ W.cell? ⟨n8, 0, none⟩ = some (.int .i64 z.kind) ∧ W.cell? ⟨n8, 1, none⟩ = some (.int .i64 z.int) ∧ W.cell? ⟨n8, 2, none⟩ = some (.string z.text) ∧ W.cell? ⟨n8, 3, none⟩ = some (.slice zla zln zlc) ∧ W.cell? ⟨n8, 4, none⟩ = some (.slice zfa zfn zfc) ∧ W.cell? ⟨w.heap.size + 1, 0, none⟩ = some (.int .i64 vk) ∧ W.cell? ⟨w.heap.size + 1, 1, none⟩ = some (.int .i64 vi) ∧ W.cell? ⟨w.heap.size + 1, 2, none⟩ = some (.string vt) ∧ W.cell? ⟨w.heap.size + 1, 3, none⟩ = some (.slice la2 ln2 lc2) ∧ W.cell? ⟨w.heap.size + 1, 4, none⟩ = some (.slice fa2 fn2 fc2)) := fun W ho => by
      have e1 := blk_cells (blk_bel hb4 ho)
      have e2 := blk_cells (blk_bel (blk_bel HBV.out hB4) ho)
      exact ⟨ho, e1 0, e1 1, e1 2, e1 3, e1 4, e2 0, e2 1, e2 2, e2 3, e2 4⟩
    have KS8 := Ap.of hks8
    have HB4 := Ap.of hB4
    clear hz4 hhas hres hFz hks8 hB4 hb4
    go_region_held3 (fun W => Below W4.heap.size W4 W ∧ W.cell? ⟨n8, 0, none⟩ = some (.int .i64 z.kind) ∧ W.cell? ⟨n8, 1, none⟩ = some (.int .i64 z.int) ∧ W.cell? ⟨n8, 2, none⟩ = some (.string z.text) ∧ W.cell? ⟨n8, 3, none⟩ = some (.slice zla zln zlc) ∧ W.cell? ⟨n8, 4, none⟩ = some (.slice zfa zfn zfc) ∧ W.cell? ⟨w.heap.size + 1, 0, none⟩ = some (.int .i64 vk) ∧ W.cell? ⟨w.heap.size + 1, 1, none⟩ = some (.int .i64 vi) ∧ W.cell? ⟨w.heap.size + 1, 2, none⟩ = some (.string vt) ∧ W.cell? ⟨w.heap.size + 1, 3, none⟩ = some (.slice la2 ln2 lc2) ∧ W.cell? ⟨w.heap.size + 1, 4, none⟩ = some (.slice fa2 fn2 fc2))
      (first
        | with_reducible assumption
        | (with_reducible (refine KS8.out _ ?_; apply Below.drew; exact Below.refl _ _))
        | (with_reducible (refine KS8.out _ ?_; apply Below.drew; apply Below.alloc; exact Below.refl _ _; exact Nat.le_refl _))
        | (with_reducible (refine KS8.out _ ?_; apply bel_stepB _ _ hb3; exact And.left (by assumption); exact (Below.size (And.left (by assumption)))))
        | (with_reducible (refine KS8.out _ ?_; apply Below.alloc; exact (And.left (by assumption)); exact (Below.size (And.left (by assumption)))))
        | (with_reducible (refine KS8.out _ ?_; apply bel_after; assumption))
        | (with_reducible (refine KS8.out _ ?_; apply bel_set5; exact (And.left (by assumption)))))
      (first
        | (go_at_call 38; refine (HIH.out z zla zln zlc zfa zfn zfc _ (HOB4.out _ (And.left (by assumption))) HFZ.out (Knd.below HZ.out (And.left (by assumption)))).mono ?_; rintro e w5 ⟨k5, i5, t5, l5, m5, c5, g5, f5, h5, er, rfl, hb3, hd⟩; have HD5 := Ap.of hd; clear hd; (first | (have c8 := blk_cells (blk_bel (blk_draw (blk_new (w := W4) (k := W4.heap.size) (o := .cells #[.int .i64 0, .int .i64 0, .string ⟨#[]⟩, .slice none 0 0, .slice none 0 0] 28) rfl)) hb3); have f8 := blk_free (blk_bel (blk_draw (blk_new (w := W4) (k := W4.heap.size) (o := .cells #[.int .i64 0, .int .i64 0, .string ⟨#[]⟩, .slice none 0 0, .slice none 0 0] 28) rfl)) hb3); have l8 := blk_lt (blk_bel (blk_draw (blk_new (w := W4) (k := W4.heap.size) (o := .cells #[.int .i64 0, .int .i64 0, .string ⟨#[]⟩, .slice none 0 0, .slice none 0 0] 28) rfl)) hb3)) | skip)))
    all_goals (first
      | (have hb6 := blk_set5 (blk_bel (blk_draw (blk_new (w := W4) (k := W4.heap.size) (o := .cells #[.int .i64 0, .int .i64 0, .string ⟨#[]⟩, .slice none 0 0, .slice none 0 0] 28) rfl)) hb3) (.int .i64 k5) (.int .i64 i5) (.string t5) (.slice l5 m5 c5) (.slice g5 f5 h5)
         have hB6 := bel_set5 (bel_stepB ((Below.alloc (Below.refl _ W4) (Nat.le_refl _) (.cells #[.int .i64 0, .int .i64 0, .string ⟨#[]⟩, .slice none 0 0, .slice none 0 0] 28)).drew) (by simp) hb3) (.int .i64 k5) (.int .i64 i5) (.string t5) (.slice l5 m5 c5) (.slice g5 f5 h5)
         have hs6 := only5 w5 W4.heap.size (.int .i64 k5) (.int .i64 i5) (.string t5) (.slice l5 m5 c5) (.slice g5 f5 h5)
         have HD6 : Ap ((∃ y2, z.put r v = some y2 ∧ k5 = y2.kind ∧ i5 = y2.int ∧ t5 = y2.text ∧ er = .nilIface ∧ (KV (E + r.length + 1)).R (((((w5.setCell ⟨W4.heap.size, 0, none⟩ (.int .i64 k5)).setCell ⟨W4.heap.size, 1, none⟩ (.int .i64 i5)).setCell ⟨W4.heap.size, 2, none⟩ (.string t5)).setCell ⟨W4.heap.size, 3, none⟩ (.slice l5 m5 c5)).setCell ⟨W4.heap.size, 4, none⟩ (.slice g5 f5 h5)) (fun k => (ok k ∧ k < w.heap.size) ∨ W4.heap.size ≤ k) y2 [.int .i64 y2.kind, .int .i64 y2.int, .string y2.text, .slice l5 m5 c5, .slice g5 f5 h5]) ∨ (z.put r v = none ∧ ∃ g m : Nat, er = .iface 122 (.pointer (some ⟨g, 0, none⟩)) ∧ ErrAt (((((w5.setCell ⟨W4.heap.size, 0, none⟩ (.int .i64 k5)).setCell ⟨W4.heap.size, 1, none⟩ (.int .i64 i5)).setCell ⟨W4.heap.size, 2, none⟩ (.string t5)).setCell ⟨W4.heap.size, 3, none⟩ (.slice l5 m5 c5)).setCell ⟨W4.heap.size, 4, none⟩ (.slice g5 f5 h5)) m 6 (.iface 122 (.pointer (some ⟨g, 0, none⟩))))) := Ap.of (by
           rcases HD5.out with ⟨y2, e1, e2, e3, e4, e6, e7⟩ | ⟨e1, g1, m1, e2, e3⟩
           · refine .inl ⟨y2, e1, e2, e3, e4, e6, (KV (E + r.length + 1)).mono (fun k hk => ?_) (Knd.only e7 hs6 (fun k hk e => ?_))⟩
             · rcases hk with h | h
               · exact .inl h
               · have h' : W4.heap.size + 1 ≤ k := by simpa using h
                 exact .inr (by omega)
             · rcases hk with h | h
               · have h1 := h.2
                 have h2 := HB4.out.size
                 have h3 := HSZ.out
                 omega
               · have h' : W4.heap.size + 1 ≤ k := by simpa using h
                 omega
           · refine .inr ⟨e1, g1, m1, e2, e3.only hs6 (fun g2 cs hg2 e => ?_)⟩
             have hbk := blk_bel (blk_draw (blk_new (w := W4) (k := W4.heap.size) (o := .cells #[.int .i64 0, .int .i64 0, .string ⟨#[]⟩, .slice none 0 0, .slice none 0 0] 28) rfl)) hb3
             subst e
             rw [hbk] at hg2
             simp at hg2)
         clear HD5 hs6
         generalize (((((w5.setCell ⟨W4.heap.size, 0, none⟩ (.int .i64 k5)).setCell ⟨W4.heap.size, 1, none⟩ (.int .i64 i5)).setCell ⟨W4.heap.size, 2, none⟩ (.string t5)).setCell ⟨W4.heap.size, 3, none⟩ (.slice l5 m5 c5)).setCell ⟨W4.heap.size, 4, none⟩ (.slice g5 f5 h5)) = W6 at hb6 hB6 HD6 ⊢
         obtain ⟨n10, hn10, he10⟩ : ∃ n, W4.heap.size ≤ n ∧ n = W4.heap.size := ⟨_, Nat.le_refl _, rfl⟩
         rw [← he10] at hb6 ⊢
         clear he10 hb3)
      | (have hb6 := blk_new (w := w5) (k := w5.heap.size) (o := .cells #[.int .i64 k5, .int .i64 i5, .string t5, .slice l5 m5 c5, .slice g5 f5 h5] 28) rfl
         have hB6 := bel_after hb3 (.cells #[.int .i64 k5, .int .i64 i5, .string t5, .slice l5 m5 c5, .slice g5 f5 h5] 28)
         have HD6 : Ap ((∃ y2, z.put r v = some y2 ∧ k5 = y2.kind ∧ i5 = y2.int ∧ t5 = y2.text ∧ er = .nilIface ∧ (KV (E + r.length + 1)).R (w5.alloc (.cells #[.int .i64 k5, .int .i64 i5, .string t5, .slice l5 m5 c5, .slice g5 f5 h5] 28)) (fun k => (ok k ∧ k < w.heap.size) ∨ W4.heap.size ≤ k) y2 [.int .i64 y2.kind, .int .i64 y2.int, .string y2.text, .slice l5 m5 c5, .slice g5 f5 h5]) ∨ (z.put r v = none ∧ ∃ g m : Nat, er = .iface 122 (.pointer (some ⟨g, 0, none⟩)) ∧ ErrAt (w5.alloc (.cells #[.int .i64 k5, .int .i64 i5, .string t5, .slice l5 m5 c5, .slice g5 f5 h5] 28)) m 6 (.iface 122 (.pointer (some ⟨g, 0, none⟩))))) := Ap.of (by
           rcases HD5.out with ⟨y2, e1, e2, e3, e4, e6, e7⟩ | ⟨e1, g1, m1, e2, e3⟩
           · exact .inl ⟨y2, e1, e2, e3, e4, e6, Knd.below e7 (bel_alloc _ _)⟩
           · exact .inr ⟨e1, g1, m1, e2, e3.below (bel_alloc _ _)⟩)
         clear HD5
         obtain ⟨n10, hn10, he10⟩ : ∃ n, W4.heap.size ≤ n ∧ n = w5.heap.size := ⟨_, hb3.size, rfl⟩
         generalize (w5.alloc (.cells #[.int .i64 k5, .int .i64 i5, .string t5, .slice l5 m5 c5, .slice g5 f5 h5] 28)) = W6 at hb6 hB6 HD6 ⊢
         rw [← he10] at hb6 ⊢
         clear he10 hb3)))
  all_goals (
    have bx6 := blk_bel (blk_bel HBX.out HB4.out) hB6
    have br6 := blk_bel (blk_bel HBR.out HB4.out) hB6
    have cp6 : W6.cell? ⟨g, off, none⟩ = some (.string p) := ((HOB4.out _ hB6).cell (p := ⟨g, off, none⟩) hlg).trans HPC.out
    have HB6 := Ap.of (HOB4.out _ hB6)
    rcases HD6.out with ⟨y2, e1, rfl, rfl, rfl, rfl, e7⟩ | ⟨e1, g1, m1, rfl, e3⟩
    rotate_left
    · have HE1 := Ap.of e1
      have HE3 := Ap.of e3
      have dr6 := blk_cells br6
      have fr6 := blk_free br6
      have lr6 := blk_lt br6
      have BR6 := Ap.of br6
      clear e1 e3 HD6 hb6 hB6 bx6 br6 hn10
      go_wp2_with fail
      refine (wrap_calls m1 6 _ p _ HE3.out).mono ?_
      rintro e w7 ⟨⟨g7, rfl, hE7⟩, hb7⟩
      have br7 := blk_bel BR6.out hb7
      have dr7 := blk_cells br7
      have fr7 := blk_free br7
      have lr7 := blk_lt br7
      have BR7 := Ap.of br7
      have HE7 := Ap.of hE7
      have HB7 := Ap.of (bel_stepB HB6.out HB6.out.size hb7)
      clear dr6 fr6 lr6 br7 hE7 hb7
      go_wp2_with fail
      have hs7 := only5 w7 (w.heap.size + 1 + 1) (.int .i64 0) (.int .i64 0) (.string ⟨#[]⟩) (.slice none 0 0) (.slice none 0 0)
      exact bodyPost_ret (v := .tuple #[.agg #[.int .i64 0, .int .i64 0, .string ⟨#[]⟩, .slice none 0 0, .slice none 0 0], .iface 122 (.pointer (some ⟨g7, 0, none⟩))]) (by simp [results, Tryz.results38, go_sem, dr7]) rfl
        (.inr ⟨by rw [HRS.out, HE1.out]; rfl, g7, m1 + 1, rfl, HE7.out.only hs7 (fun g2 cs hg2 e => by subst e; rw [BR7.out] at hg2; simp at hg2), bel_only HB7.out HB7.out.size hs7 (fun j he => by omega)⟩)
    · have HE1 := Ap.of e1
      have gb0 : GB (w.heap.size + 1 + 1) 5 28 W6 := ⟨_, br6, rfl⟩
      have h43 := HB4.out.size
      have hks : ∀ W, Only (fun j => j = w.heap.size + 1 + 1) W6 W → GB (w.heap.size + 1 + 1) 5 28 W → (Only (fun j => j = w.heap.size + 1 + 1) W6 W ∧ GB (w.heap.size + 1 + 1) 5 28 W ∧ W.cell? ⟨g, off, none⟩ = some (.string p) ∧ W.cell? ⟨w.heap.size, 0, none⟩ = some (.int .i64 xk) ∧ W.cell? ⟨w.heap.size, 1, none⟩ = some (.int .i64 xi) ∧ W.cell? ⟨w.heap.size, 2, none⟩ = some (.string xt) ∧ W.cell? ⟨w.heap.size, 3, none⟩ = some (.slice la ln lc) ∧ W.cell? ⟨w.heap.size, 4, none⟩ = some (.slice fa fn fc) ∧ W.cell? ⟨n10, 0, none⟩ = some (.int .i64 y2.kind) ∧ W.cell? ⟨n10, 1, none⟩ = some (.int .i64 y2.int) ∧ W.cell? ⟨n10, 2, none⟩ = some (.string y2.text) ∧ W.cell? ⟨n10, 3, none⟩ = some (.slice l5 m5 c5) ∧ W.cell? ⟨n10, 4, none⟩ = some (.slice g5 f5 h5) ∧ W.cell? ⟨w.heap.size + 1 + 1, 0, none⟩ = some (curCell W (w.heap.size + 1 + 1) 0) ∧ W.cell? ⟨w.heap.size + 1 + 1, 1, none⟩ = some (curCell W (w.heap.size + 1 + 1) 1) ∧ W.cell? ⟨w.heap.size + 1 + 1, 2, none⟩ = some (curCell W (w.heap.size + 1 + 1) 2) ∧ W.cell? ⟨w.heap.size + 1 + 1, 3, none⟩ = some (curCell W (w.heap.size + 1 + 1) 3) ∧ W.cell? ⟨w.heap.size + 1 + 1, 4, none⟩ = some (curCell W (w.heap.size + 1 + 1) 4) ∧ W.frozen? ⟨w.heap.size + 1 + 1, 0, none⟩ = false ∧ W.frozen? ⟨w.heap.size + 1 + 1, 1, none⟩ = false ∧ W.frozen? ⟨w.heap.size + 1 + 1, 2, none⟩ = false ∧ W.frozen? ⟨w.heap.size + 1 + 1, 3, none⟩ = false ∧ W.frozen? ⟨w.heap.size + 1 + 1, 4, none⟩ = false) := fun W ho hgb => by
        have hz := HSZ.out
        have e1 := blk_cells (blk_only bx6 ho (fun e => by omega))
        have e2 := blk_cells (blk_only hb6 ho (fun e => by omega))
        exact ⟨ho, hgb, (only_cell ho (q := ⟨g, off, none⟩) (World.block_lt_of_cell? _ _ cp6) (fun e => by have e : g = w.heap.size + 1 + 1 := e; omega)).trans cp6, e1 0, e1 1, e1 2, e1 3, e1 4, e2 0, e2 1, e2 2, e2 3, e2 4, (hgb.cell (by omega)).1, (hgb.cell (by omega)).1, (hgb.cell (by omega)).1, (hgb.cell (by omega)).1, (hgb.cell (by omega)).1, (hgb.cell (by omega)).2, (hgb.cell (by omega)).2, (hgb.cell (by omega)).2, (hgb.cell (by omega)).2, (hgb.cell (by omega)).2⟩
      have KS11 := Ap.of hks
      have HGB := Ap.of gb0
      have HWO := Ap.of (show ∀ W, Only (fun j => j = w.heap.size + 1 + 1) W6 W → Calls Tryz.prog 64 _ W _ from fun W ho => HWI.out y2 l5 m5 c5 g5 f5 h5 W4.heap.size W (bel_only HB6.out HB6.out.size ho (fun j he => by omega)) HHAS.out (Knd.only e7 ho (fun k hk e => by
        have hz := HSZ.out
        rcases hk with h | h
        · have := h.2; omega
        · omega)))
      have BR6 := Ap.of br6
      have H43 := Ap.of h43
      clear hks gb0 h43 e1 e7 HD6 hb6 hB6 bx6 br6 hn10 cp6
      go_wp2_with fail
      go_region_held3 (fun W => Only (fun j => j = w.heap.size + 1 + 1) W6 W ∧ GB (w.heap.size + 1 + 1) 5 28 W ∧ W.cell? ⟨g, off, none⟩ = some (.string p) ∧ W.cell? ⟨w.heap.size, 0, none⟩ = some (.int .i64 xk) ∧ W.cell? ⟨w.heap.size, 1, none⟩ = some (.int .i64 xi) ∧ W.cell? ⟨w.heap.size, 2, none⟩ = some (.string xt) ∧ W.cell? ⟨w.heap.size, 3, none⟩ = some (.slice la ln lc) ∧ W.cell? ⟨w.heap.size, 4, none⟩ = some (.slice fa fn fc) ∧ W.cell? ⟨n10, 0, none⟩ = some (.int .i64 y2.kind) ∧ W.cell? ⟨n10, 1, none⟩ = some (.int .i64 y2.int) ∧ W.cell? ⟨n10, 2, none⟩ = some (.string y2.text) ∧ W.cell? ⟨n10, 3, none⟩ = some (.slice l5 m5 c5) ∧ W.cell? ⟨n10, 4, none⟩ = some (.slice g5 f5 h5) ∧ W.cell? ⟨w.heap.size + 1 + 1, 0, none⟩ = some (curCell W (w.heap.size + 1 + 1) 0) ∧ W.cell? ⟨w.heap.size + 1 + 1, 1, none⟩ = some (curCell W (w.heap.size + 1 + 1) 1) ∧ W.cell? ⟨w.heap.size + 1 + 1, 2, none⟩ = some (curCell W (w.heap.size + 1 + 1) 2) ∧ W.cell? ⟨w.heap.size + 1 + 1, 3, none⟩ = some (curCell W (w.heap.size + 1 + 1) 3) ∧ W.cell? ⟨w.heap.size + 1 + 1, 4, none⟩ = some (curCell W (w.heap.size + 1 + 1) 4) ∧ W.frozen? ⟨w.heap.size + 1 + 1, 0, none⟩ = false ∧ W.frozen? ⟨w.heap.size + 1 + 1, 1, none⟩ = false ∧ W.frozen? ⟨w.heap.size + 1 + 1, 2, none⟩ = false ∧ W.frozen? ⟨w.heap.size + 1 + 1, 3, none⟩ = false ∧ W.frozen? ⟨w.heap.size + 1 + 1, 4, none⟩ = false)
        (first
          | with_reducible assumption
          | (with_reducible (refine KS11.out _ ?_ ?_; apply Only.draw; exact Only.refl _ _; exact GB.draw HGB.out))
          | (with_reducible (refine KS11.out _ ?_ ?_; refine Only.bel ?_ hb3; exact And.left (by assumption); exact GB.bel (And.left (And.right (by assumption))) hb3))
          | (with_reducible (refine KS11.out _ ?_ ?_; refine Only.trans ?_ (only5 _ _ _ _ _ _ _) (fun _ h => .inl h); exact And.left (by assumption); refine gb_set50 ?_ (Nat.le_refl _) _ _ _ _ _; exact And.left (And.right (by assumption)))))
        (first
          | (go_at_call 64; refine (HWO.out _ (And.left (by assumption))).mono ?_; rintro e w7 ⟨l7, m7, c7, g7, f7, h7, rfl, hr7, hb3⟩; have HR7 := Ap.of hr7; clear hr7))
      have br8 := blk_set5 (blk_bel (blk_draw BR6.out) hb3) (.int .i64 (x.with p y2).kind) (.int .i64 (x.with p y2).int) (.string (x.with p y2).text) (.slice l7 m7 c7) (.slice g7 f7 h7)
      have hs8 := only5 w7 (w.heap.size + 1 + 1) (.int .i64 (x.with p y2).kind) (.int .i64 (x.with p y2).int) (.string (x.with p y2).text) (.slice l7 m7 c7) (.slice g7 f7 h7)
      have hB7 := bel_stepB HB6.out.drew HB6.out.size hb3
      have hB8 := bel_only hB7 hB7.size hs8 (fun j he => by omega)
      have hR8 := (KV (E + r.length + 2)).mono (ok' := fun k => ok k ∨ w.heap.size ≤ k) (fun k hk => by
          have hz := HSZ.out
          have h4 := H43.out
          rcases hk with (h | h) | h
          · exact .inl h.1
          · exact .inr (by omega)
          · exact .inr (Nat.le_trans HB6.out.size h)) (Knd.only HR7.out hs8 (fun k hk e => by
        have hz := HSZ.out
        have h4 := H43.out
        have h6 := blk_lt BR6.out
        rcases hk with (h | h) | h
        · have := h.2; omega
        · omega
        · have h' : W6.heap.size ≤ k := h
          omega))
      generalize (((((w7.setCell ⟨w.heap.size + 1 + 1, 0, none⟩ (.int .i64 (x.with p y2).kind)).setCell ⟨w.heap.size + 1 + 1, 1, none⟩ (.int .i64 (x.with p y2).int)).setCell ⟨w.heap.size + 1 + 1, 2, none⟩ (.string (x.with p y2).text)).setCell ⟨w.heap.size + 1 + 1, 3, none⟩ (.slice l7 m7 c7)).setCell ⟨w.heap.size + 1 + 1, 4, none⟩ (.slice g7 f7 h7)) = W8 at br8 hs8 hB8 hR8 ⊢
      have dr8 := blk_cells br8
      have lr8 := blk_lt br8
      have HB8' := Ap.of hB8
      have HR8' := Ap.of hR8
      clear br8 hs8 hB7 hB8 hR8 hb3
      go_wp2_with fail
      exact bodyPost_ret (v := .tuple #[.agg #[.int .i64 (x.with p y2).kind, .int .i64 (x.with p y2).int, .string (x.with p y2).text, .slice l7 m7 c7, .slice g7 f7 h7], .nilIface]) (by simp [results, Tryz.results38, go_sem, dr8]) rfl
        (.inl ⟨x.with p y2, by rw [HRS.out, HE1.out]; rfl, l7, m7, c7, g7, f7, h7, rfl, HR8'.out, HB8'.out⟩))
theorem put_all : ∀ m, PutS m
  | 0 => put_nil
  | m + 1 => put_cons m (put_all m)
end Go.Proofs.YtlomieopppndeaaGreatDoor
