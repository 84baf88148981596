/- filter.test; what filters and errors are told by. -/
import Derived.Test.YtlomieopppndeaaDoorParseLaw
import Derived.Deep.RegionHeld3
namespace Go.Proofs.YtlomieopppndeaaDoor
open Go.RowKit

theorem KF_zero (dv d : Nat) (w : World) (ok : Nat → Prop) : (KF (dv + 1) (d + 1)).R w ok Flt.zero [.int .i64 0, .string ⟨#[]⟩, .int .i64 0, .int .i64 0, .string ⟨#[]⟩, .slice none 0 0, .slice none 0 0, .slice none 0 0] := ⟨[.int .i64 0, .int .i64 0, .string ⟨#[]⟩, .slice none 0 0, .slice none 0 0], none, 0, 0, rfl, ⟨by decide, by decide⟩, by decide, KV_zero _ _ dv, Row.nil _ _ _⟩
/-- A filter and no error, or none and an error of a code. -/
def ResP (dv d : Nat) (w : World) (ok : Nat → Prop) (r : Except Int Flt) (e : Ending) (w' : World) : Prop :=
  ∃ (f : Flt) (la : Option Addr) (ln lc : Nat) (fa : Option Addr) (fn fc : Nat) (sa : Option Addr) (sn sc : Nat) (er : Value), e = .returned (.tuple #[.agg #[.int .i64 f.op, .string f.path, .int .i64 f.val.kind, .int .i64 f.val.int, .string f.val.text, .slice la ln lc, .slice fa fn fc, .slice sa sn sc], er]) ∧ (KF (dv + 1) (d + 1)).R w' (fun k => ok k ∨ w.heap.size ≤ k) f [.int .i64 f.op, .string f.path, .int .i64 f.val.kind, .int .i64 f.val.int, .string f.val.text, .slice la ln lc, .slice fa fn fc, .slice sa sn sc] ∧ Below w.heap.size w w' ∧
    ((r = .ok f ∧ er = .nilIface) ∨ ∃ (c : Int) (m g : Nat), r = .error c ∧ f = Flt.zero ∧ er = .iface 88 (.pointer (some ⟨g, 0, none⟩)) ∧ ErrAt w' m c er)
section
variable {dv d : Nat} {w w' : World} {ok : Nat → Prop} {r : Except Int Flt}
theorem ResP.err {c : Int} {m g : Nat} (hr : r = .error c) (hE : ErrAt w' m c (.iface 88 (.pointer (some ⟨g, 0, none⟩)))) (hb : Below w.heap.size w w') :
    ResP dv d w ok r (.returned (.tuple #[.agg #[.int .i64 0, .string ⟨#[]⟩, .int .i64 0, .int .i64 0, .string ⟨#[]⟩, .slice none 0 0, .slice none 0 0, .slice none 0 0], .iface 88 (.pointer (some ⟨g, 0, none⟩))])) w' :=
  ⟨Flt.zero, none, 0, 0, none, 0, 0, none, 0, 0, _, rfl, KF_zero _ _ _ _, hb, .inr ⟨c, m, g, hr, rfl, rfl, hE⟩⟩
theorem ResP.fine {f : Flt} {o k n : Int} {p s : ByteArray} {la : Option Addr} {ln lc : Nat} {fa : Option Addr} {fn fc : Nat} {sa : Option Addr} {sn sc : Nat} (h0 : o = f.op) (h1 : p = f.path) (h2 : k = f.val.kind) (h3 : n = f.val.int) (h4 : s = f.val.text) (hr : r = .ok f)
    (hR : (KF (dv + 1) (d + 1)).R w' (fun k => ok k ∨ w.heap.size ≤ k) f [.int .i64 f.op, .string f.path, .int .i64 f.val.kind, .int .i64 f.val.int, .string f.val.text, .slice la ln lc, .slice fa fn fc, .slice sa sn sc]) (hb : Below w.heap.size w w') :
    ResP dv d w ok r (.returned (.tuple #[.agg #[.int .i64 o, .string p, .int .i64 k, .int .i64 n, .string s, .slice la ln lc, .slice fa fn fc, .slice sa sn sc], .nilIface])) w' := by
  subst h0 h1 h2 h3 h4
  exact ⟨f, la, ln, lc, fa, fn, fc, sa, sn, sc, _, rfl, hR, hb, .inl ⟨hr, rfl⟩⟩
end
def GZ (g N : Nat) (t : TypeId) (W : World) : Prop := ∃ cur : Array Value, W.heap[g]? = some (.cells cur t (0, 0)) ∧ cur.size = N
theorem GZ.bel {g N : Nat} {t : TypeId} {W W' : World} (h : GZ g N t W) (hb : Below W.heap.size W W') : GZ g N t W' := by obtain ⟨cur, a, b⟩ := h; exact ⟨cur, blk_bel a hb, b⟩
theorem GZ.draw {g N : Nat} {t : TypeId} {W : World} (h : GZ g N t W) : GZ g N t W.drew := h
def curZ (W : World) (g o : Nat) : Value := (W.cell? ⟨g, o, none⟩).getD undef
theorem GZ.cell {g N : Nat} {t : TypeId} {W : World} (h : GZ g N t W) {o : Nat} (ho : o < N) : W.cell? ⟨g, o, none⟩ = some (curZ W g o) ∧ W.frozen? ⟨g, o, none⟩ = false := by
  obtain ⟨cur, a, b⟩ := h
  refine ⟨?_, blk_free a o⟩
  unfold curZ
  rw [blk_cells a, Array.getElem?_eq_getElem (by omega)]
  rfl
theorem onlyz_cell {S : Nat → Prop} {W W' : World} (h : Only S W W') {q : Addr} (hq : q.block < W.heap.size) (hn : ¬ S q.block) : W'.cell? q = W.cell? q := by
  have := h.block q.block hq hn
  simp only [World.cell?, this]
set_option maxRecDepth 100000 in
set_option maxHeartbeats 4000000 in
theorem wrapz_calls (d : Nat) (c : Int) (err : Value) (p : ByteArray) (w : World) (hE : ErrAt w d c err) : Calls Tryd.prog 52 #[err, .string p] w fun e w' => (∃ g : Nat, e = .returned (.iface 88 (.pointer (some ⟨g, 0, none⟩))) ∧ ErrAt w' (d + 1) c (.iface 88 (.pointer (some ⟨g, 0, none⟩)))) ∧ Below w.heap.size w w' := by
  obtain ⟨te, ue, rfl⟩ := hE.shape
  have HE := Ap.of hE
  clear hE
  go_enter Tryd.func52, Tryd.ntmps52
  go_wp2_with fail
  go_ret
  exact ⟨⟨_, rfl, _, _, _, rfl, blk_new rfl, HE.out.below (bel_alloc _ _)⟩, bel_alloc _ _⟩
theorem blk_set8 {w : World} {g : Nat} {a0 a1 a2 a3 a4 a5 a6 a7 : Value} {t : TypeId} (h : w.heap[g]? = some (.cells #[a0, a1, a2, a3, a4, a5, a6, a7] t (0, 0))) (v0 v1 v2 v3 v4 v5 v6 v7 : Value) :
    ((((((((w.setCell ⟨g, 0, none⟩ v0).setCell ⟨g, 1, none⟩ v1).setCell ⟨g, 2, none⟩ v2).setCell ⟨g, 3, none⟩ v3).setCell ⟨g, 4, none⟩ v4).setCell ⟨g, 5, none⟩ v5).setCell ⟨g, 6, none⟩ v6).setCell ⟨g, 7, none⟩ v7).heap[g]? = some (.cells #[v0, v1, v2, v3, v4, v5, v6, v7] t (0, 0)) := by
  have := blk_set (blk_set (blk_set (blk_set (blk_set (blk_set (blk_set (blk_set h 0 v0) 1 v1) 2 v2) 3 v3) 4 v4) 5 v5) 6 v6) 7 v7
  simpa using this

theorem idxFromS_bounds (x : ByteArray) : ∀ (zs : List ByteArray) (i : Nat), Lib.idxFromS zs x i = -1 ∨ ((i : Int) ≤ Lib.idxFromS zs x i ∧ Lib.idxFromS zs x i < (i : Int) + (zs.length : Int))
  | [], _ => .inl rfl
  | z :: zs, i => by
    unfold Lib.idxFromS
    by_cases h : z = x
    · rw [if_pos h]; exact .inr ⟨Int.le_refl _, by simp; omega⟩
    · rw [if_neg h]
      rcases idxFromS_bounds x zs (i + 1) with h1 | ⟨h1, h2⟩
      · exact .inl h1
      · exact .inr ⟨by omega, by simp; omega⟩
theorem namedI_bounds (nm : ByteArray) : -1 ≤ namedI nm ∧ namedI nm ≤ 9 := by
  have h := idxFromS_bounds nm (opsOf.take 10) 0
  have h3 : (opsOf.take 10).length = 10 := rfl
  unfold namedI Lib.idxOfS
  rw [h3] at h
  omega
set_option maxRecDepth 100000 in
set_option maxHeartbeats 4000000 in
theorem test_calls (p : ByteArray) (w : World) : Calls Tryd.prog 54 #[.string p] w fun e w' => e = .returned (.func (.func 73) #[] #[.pointer (some ⟨w.heap.size, 0, none⟩)]) ∧ w' = w.alloc (.cells #[.string p] 9) := by
  go_enter Tryd.func54, Tryd.ntmps54
  go_wp2_with fail
  go_ret
  exact ⟨rfl, rfl⟩

set_option maxRecDepth 100000 in
set_option maxHeartbeats 4000000 in
theorem test1_calls (dv d : Nat) (nm : ByteArray) (v : Val) (la : Option Addr) (ln lc : Nat) (fa : Option Addr) (fn fc : Nat) (path : ByteArray) (g : Nat) (ok : Nat → Prop) (w : World) (hg : w.cell? ⟨g, 0, none⟩ = some (.string path)) (hp : path.size ≤ maxLen) (G : FilG w) (hv : (KV (dv + 1)).R w ok v [.int .i64 v.kind, .int .i64 v.int, .string v.text, .slice la ln lc, .slice fa fn fc]) :
    Calls Tryd.prog 73 #[.agg #[.string nm, .int .i64 v.kind, .int .i64 v.int, .string v.text, .slice la ln lc, .slice fa fn fc], .pointer (some ⟨g, 0, none⟩)] w (ResP dv d w ok (testF path (nm, v))) := by
  have hb2 := bel_step (bel_alloc w (.cells #[.string nm, .int .i64 v.kind, .int .i64 v.int, .string v.text, .slice la ln lc, .slice fa fn fc] 69)) (bel_alloc _ (.cells #[.int .i64 0, .string ⟨#[]⟩, .int .i64 0, .int .i64 0, .string ⟨#[]⟩, .slice none 0 0, .slice none 0 0, .slice none 0 0] 32))
  have HNM := Ap.of (named_calls nm _ (G.below hb2))
  have lg := World.block_lt_of_cell? w _ hg
  have HP := Ap.of hp
  have HV := Ap.of ((KV (dv + 1)).bound hv)
  have HNI := Ap.of (show inI64 (namedI nm) by
    have := namedI_bounds nm; unfold inI64; omega)
  have hT : testF path (nm, v) = if namedI nm < 2 then .error 8 else if (namedI nm = 8 ∧ v.kind ≠ 4) ∨ (namedI nm = 9 ∧ v.kind ≠ 1) then .error 7 else .ok (.mk (namedI nm) path v []) := rfl
  generalize testF path (nm, v) = res at *
  have HT := Ap.of hT
  clear hb2 G hp hv hT
  generalize namedI nm = o at *
  generalize hvk : v.kind = vk at *
  generalize hvi : v.int = vi at *
  generalize hvt : v.text = vt at *
  have hc : (o < 2) ∨ (o = 8 ∧ vk ≠ 4) ∨ (o = 9 ∧ vk ≠ 1) ∨ (o = 8 ∧ vk = 4) ∨ (o = 9 ∧ vk = 1) ∨ (¬ o < 2 ∧ o ≠ 8 ∧ o ≠ 9) := by omega
  rcases hc with h | ⟨rfl, h⟩ | ⟨rfl, h⟩ | ⟨rfl, rfl⟩ | ⟨rfl, rfl⟩ | ⟨h2, h8, h9⟩
  · have t2 : decide (o < 2) = true := by simpa using h
    have HR := Ap.of (show res = .error 8 by rw [HT.out, if_pos h])
    clear h
    go_enter Tryd.func73, Tryd.ntmps73
    go_wp2_with fail
    refine HNM.out.mono ?_
    rintro e w1 ⟨rfl, rfl⟩
    go_wp2_with fail
    refine (new_calls 8 (by decide) _ _).mono ?_
    rintro e w1 ⟨rfl, rfl⟩
    go_wp2_with fail
    exact bodyPost_ret (v := .tuple #[.agg #[.int .i64 0, .string ⟨#[]⟩, .int .i64 0, .int .i64 0, .string ⟨#[]⟩, .slice none 0 0, .slice none 0 0, .slice none 0 0], .iface 88 (.pointer (some ⟨w.heap.size + 1 + 1, 0, none⟩))]) (by simp [results, Tryd.results73, go_sem]) rfl
      (ResP.err (m := 1) HR.out ⟨_, _, _, rfl, blk_new (by simp), rfl⟩ (bel_step (bel_step (bel_alloc _ _) (bel_alloc _ _)) (bel_alloc _ _)))
  · have t2 : (vk == 4) = false := by simpa using h
    have HR := Ap.of (show res = .error 7 by rw [HT.out, if_neg (by decide), if_pos (.inl ⟨rfl, h⟩)])
    clear h
    go_enter Tryd.func73, Tryd.ntmps73
    go_wp2_with fail
    refine HNM.out.mono ?_
    rintro e w1 ⟨rfl, rfl⟩
    go_wp2_with fail
    refine (new_calls 7 (by decide) _ _).mono ?_
    rintro e w1 ⟨rfl, rfl⟩
    go_wp2_with fail
    exact bodyPost_ret (v := .tuple #[.agg #[.int .i64 0, .string ⟨#[]⟩, .int .i64 0, .int .i64 0, .string ⟨#[]⟩, .slice none 0 0, .slice none 0 0, .slice none 0 0], .iface 88 (.pointer (some ⟨w.heap.size + 1 + 1, 0, none⟩))]) (by simp [results, Tryd.results73, go_sem]) rfl
      (ResP.err (m := 1) HR.out ⟨_, _, _, rfl, blk_new (by simp), rfl⟩ (bel_step (bel_step (bel_alloc _ _) (bel_alloc _ _)) (bel_alloc _ _)))
  · have t2 : (vk == 1) = false := by simpa using h
    have HR := Ap.of (show res = .error 7 by rw [HT.out, if_neg (by decide), if_pos (.inr ⟨rfl, h⟩)])
    clear h
    go_enter Tryd.func73, Tryd.ntmps73
    go_wp2_with fail
    refine HNM.out.mono ?_
    rintro e w1 ⟨rfl, rfl⟩
    go_wp2_with fail
    refine (new_calls 7 (by decide) _ _).mono ?_
    rintro e w1 ⟨rfl, rfl⟩
    go_wp2_with fail
    exact bodyPost_ret (v := .tuple #[.agg #[.int .i64 0, .string ⟨#[]⟩, .int .i64 0, .int .i64 0, .string ⟨#[]⟩, .slice none 0 0, .slice none 0 0, .slice none 0 0], .iface 88 (.pointer (some ⟨w.heap.size + 1 + 1, 0, none⟩))]) (by simp [results, Tryd.results73, go_sem]) rfl
      (ResP.err (m := 1) HR.out ⟨_, _, _, rfl, blk_new (by simp), rfl⟩ (bel_step (bel_step (bel_alloc _ _) (bel_alloc _ _)) (bel_alloc _ _)))
  · have HR := Ap.of (show res = .ok (.mk 8 path v []) by rw [HT.out, if_neg (by decide), if_neg (by omega)])
    go_enter Tryd.func73, Tryd.ntmps73
    go_wp2_with fail
    refine HNM.out.mono ?_
    rintro e w1 ⟨rfl, rfl⟩
    go_wp2_with fail
    exact bodyPost_ret (v := .tuple #[.agg #[.int .i64 8, .string path, .int .i64 4, .int .i64 vi, .string vt, .slice la ln lc, .slice fa fn fc, .slice none 0 0], .nilIface]) (by simp [results, Tryd.results73, go_sem]) rfl
      (ResP.fine (f := .mk 8 path v []) rfl rfl hvk.symm hvi.symm hvt.symm HR.out (KF_mk (f := .mk 8 path v []) HNI.out HP.out (by show (KV (dv + 1)).R _ _ v [.int .i64 v.kind, .int .i64 v.int, .string v.text, .slice la ln lc, .slice fa fn fc]; rw [hvk, hvi, hvt]; exact (KV (dv + 1)).mono (fun k hk => .inl hk.1) (Knd.below (Knd.below HV.out (bel_alloc _ _)) (bel_alloc _ _))) (Row.nil _ _ _)) (bel_step (bel_alloc _ _) (bel_alloc _ _)))
  · have HR := Ap.of (show res = .ok (.mk 9 path v []) by rw [HT.out, if_neg (by decide), if_neg (by omega)])
    go_enter Tryd.func73, Tryd.ntmps73
    go_wp2_with fail
    refine HNM.out.mono ?_
    rintro e w1 ⟨rfl, rfl⟩
    go_wp2_with fail
    exact bodyPost_ret (v := .tuple #[.agg #[.int .i64 9, .string path, .int .i64 1, .int .i64 vi, .string vt, .slice la ln lc, .slice fa fn fc, .slice none 0 0], .nilIface]) (by simp [results, Tryd.results73, go_sem]) rfl
      (ResP.fine (f := .mk 9 path v []) rfl rfl hvk.symm hvi.symm hvt.symm HR.out (KF_mk (f := .mk 9 path v []) HNI.out HP.out (by show (KV (dv + 1)).R _ _ v [.int .i64 v.kind, .int .i64 v.int, .string v.text, .slice la ln lc, .slice fa fn fc]; rw [hvk, hvi, hvt]; exact (KV (dv + 1)).mono (fun k hk => .inl hk.1) (Knd.below (Knd.below HV.out (bel_alloc _ _)) (bel_alloc _ _))) (Row.nil _ _ _)) (bel_step (bel_alloc _ _) (bel_alloc _ _)))
  · have HR := Ap.of (show res = .ok (.mk o path v []) by rw [HT.out, if_neg h2, if_neg (by omega)])
    have t2 : decide (o < 2) = false := by simpa using h2
    have t8 : (o == 8) = false := by simpa using h8
    have t9 : (o == 9) = false := by simpa using h9
    clear h2 h8 h9
    go_enter Tryd.func73, Tryd.ntmps73
    go_wp2_with fail
    refine HNM.out.mono ?_
    rintro e w1 ⟨rfl, rfl⟩
    go_wp2_with fail
    exact bodyPost_ret (v := .tuple #[.agg #[.int .i64 o, .string path, .int .i64 vk, .int .i64 vi, .string vt, .slice la ln lc, .slice fa fn fc, .slice none 0 0], .nilIface]) (by simp [results, Tryd.results73, go_sem]) rfl
      (ResP.fine (f := .mk o path v []) rfl rfl hvk.symm hvi.symm hvt.symm HR.out (KF_mk (f := .mk o path v []) HNI.out HP.out (by show (KV (dv + 1)).R _ _ v [.int .i64 v.kind, .int .i64 v.int, .string v.text, .slice la ln lc, .slice fa fn fc]; rw [hvk, hvi, hvt]; exact (KV (dv + 1)).mono (fun k hk => .inl hk.1) (Knd.below (Knd.below HV.out (bel_alloc _ _)) (bel_alloc _ _))) (Row.nil _ _ _)) (bel_step (bel_alloc _ _) (bel_alloc _ _)))

end Go.Proofs.YtlomieopppndeaaDoor
