import Derived.Test.YtlomieopppndeaaDoorPlanBoundsW
import Derived.Test.YtlomieopppndeaaDoorAppN
import Derived.ArgAppend
/- roundelaylaw17.specs: the indexes that bytes name. -/
namespace Go.Proofs.YtlomieopppndeaaDoor
open Go.RowKit
attribute [local go_sem] max2_int min2_int

theorem Tryd.infoSp : (Tryd.prog.info? 46).map (fun i => (i.zero, i.size, i.bytes)) = some (some (.agg #[.string ⟨#[]⟩, .string ⟨#[]⟩, .bool false]), 3, 40) := by kernel_rfl
def dgK (k : Nat) : ByteArray := ⟨#[48 + k.toUInt8]⟩
def nmK (k : Nat) : ByteArray := ⟨#[105]⟩ ++ dgK k
theorem wrapK (k : Nat) (hk : k < 6) : IntKind.i64.wrap ((k : Int) + 1) = (k : Int) + 1 := by
  rcases (show k = 0 ∨ k = 1 ∨ k = 2 ∨ k = 3 ∨ k = 4 ∨ k = 5 by omega) with rfl | rfl | rfl | rfl | rfl | rfl <;> decide
theorem digit (k : Nat) (hk : k < 6) : ByteArray.extract ⟨#[48, 49, 50, 51, 52, 53, 54, 55, 56, 57]⟩ k (k + 1) = dgK k := by
  rcases (show k = 0 ∨ k = 1 ∨ k = 2 ∨ k = 3 ∨ k = 4 ∨ k = 5 by omega) with rfl | rfl | rfl | rfl | rfl | rfl <;> decide
theorem nm_ne {k : Nat} (hk : k < 6) : nmK k ≠ ⟨#[]⟩ := by
  rcases (show k = 0 ∨ k = 1 ∨ k = 2 ∨ k = 3 ∨ k = 4 ∨ k = 5 by omega) with rfl | rfl | rfl | rfl | rfl | rfl <;> decide
theorem nm_size {k : Nat} (hk : k < 6) : (nmK k).size = 2 := by
  rcases (show k = 0 ∨ k = 1 ∨ k = 2 ∨ k = 3 ∨ k = 4 ∨ k = 5 by omega) with rfl | rfl | rfl | rfl | rfl | rfl <;> decide
theorem path_size {p : ByteArray} (h : p ∈ pathsOf) : p.size ≤ 16 := by
  simp only [pathsOf, List.mem_cons, List.not_mem_nil, or_false] at h
  rcases h with rfl | rfl | rfl | rfl | rfl | rfl <;> decide
def SpcP (w : World) (e : Ending) (w' : World) : Prop :=
  ∃ (A : Option Addr) (m c : Nat) (xs : List (ByteArray × ByteArray)), e = .returned (.slice A m c) ∧ Row KSp w' (fun j => w.heap.size ≤ j ∧ j < w'.heap.size) A m c xs ∧ m ≤ 6 ∧ (∀ s ∈ xs, s.1 ≠ ⟨#[]⟩) ∧ Below w.heap.size w w'
set_option maxRecDepth 100000 in
set_option maxHeartbeats 4000000 in
theorem specs_calls (A : Option Addr) (n c : Nat) (w : World) (ok : Nat → Prop) (hok : ∀ k, ok k → k < w.heap.size) (hB : Bs w ok A n c) (G : PbG w) :
    Calls Tryd.prog 13 #[.slice A n c] w (SpcP w) := by
  obtain ⟨N, hN⟩ : ∃ N : Nat, (if 6 < (n : Int) then 6 else (n : Int)) = (N : Int) := ⟨if 6 < n then 6 else n, by split <;> split <;> omega⟩
  have hNl : N ≤ n := by split at hN <;> omega
  have hN6 : N ≤ 6 := by split at hN <;> omega
  have hrun := cutTo A n c N hB.1 hB.2.1 hB.2.2.1 hNl
  have HB := Ap.of (hB.take hNl)
  have hn1 := hB.1
  have hn2 := hB.2.1
  have HOK := Ap.of hok
  have GG := Ap.of G
  clear hok G hB
  obtain ⟨i0, hi, hzz⟩ := Option.map_eq_some_iff.1 Tryd.infoSp
  simp only [Prod.mk.injEq] at hzz
  have HI := Ap.of (And.intro hi hzz)
  clear hi hzz
  unfold SpcP
  go_enter Tryd.func13, Tryd.ntmps13
  go_wp2_with fail
  go_loopw [3, 12] (fun v3 vi wr => ∃ (k : Nat) (A0 : Option Addr) (c0 : Nat) (xs : List (ByteArray × ByteArray)), k ≤ N ∧ vi = .int .i64 k ∧ v3 = .slice A0 k c0 ∧ Ap (xs.length = k) ∧ Ap (∀ s ∈ xs, s.1 ≠ ⟨#[]⟩) ∧ Ap (Own KSp 46 w.heap.size wr (fun j => w.heap.size ≤ j) (.slice A0 k c0) xs) ∧ Ap (Below w.heap.size w wr)) (fun _ vi _ => N - (intOf vi).toNat)
  case atStart => exact ⟨0, none, 0, [], Nat.zero_le _, rfl, rfl, Ap.of rfl, Ap.of (fun s h => by cases h), Ap.of (Own.nil _ _ _ _ _), Ap.of (Below.refl _ _)⟩
  case round =>
    obtain ⟨k, A0, c0, xs, hk, rfl, rfl, HXL, HNE, O, BL⟩ := hrel
    by_cases hlt : k < N
    · obtain ⟨g, off, x, rfl, hx0, hx1, hcell⟩ : ∃ (g off : Nat) (x : Int), A = some ⟨g, off, none⟩ ∧ 0 ≤ x ∧ x ≤ 255 ∧ wr.cell? ⟨g, off + k, none⟩ = some (.int .u8 x) := by
        rcases (HB.out.below BL.out).2.2.2 with h | ⟨g, off, e, _, _, f⟩
        · omega
        · obtain ⟨x, h1, h2, h3⟩ := f k hlt
          exact ⟨g, off, x, e, h2, h3, h1⟩
      obtain ⟨K, hK, hK6⟩ : ∃ K : Nat, x % 6 = (K : Int) ∧ K < 6 := ⟨(x % 6).toNat, by omega, by omega⟩
      have hKb : (K : Int) < 6 := by omega
      obtain ⟨p, hp⟩ : ∃ p, pathsOf[K]? = some p := ⟨_, List.getElem?_eq_getElem (by have : pathsOf.length = 6 := rfl; omega)⟩
      have cp := (GG.out.below BL.out).pa K p hp
      have lp := World.block_lt_of_cell? _ _ cp
      have lx := World.block_lt_of_cell? _ _ hcell
      have HP := Ap.of (path_size (List.mem_of_getElem? hp))
      have hd := digit k (by omega)
      have hdz : (dgK k).size = 1 := rfl
      have hwr := wrapK k (by omega)
      have hd2 : ((k : Int) + 1).toNat = k + 1 := by omega
      have hd3 : ByteArray.extract ⟨#[48, 49, 50, 51, 52, 53, 54, 55, 56, 57]⟩ k ((k : Int) + 1).toNat = dgK k := by rw [hd2]; exact hd
      have hd4 : 0 ≤ (k : Int) + 1 ∧ (k : Int) + 1 ≤ 10 := by omega
      have hd5 : (k : Int) ≤ (k : Int) + 1 := by omega
      have hKt : x.tmod 6 = (K : Int) := by rw [Int.tmod_eq_emod_of_nonneg hx0, hK]
      have hK0 : (0 : Int) ≤ (K : Int) := by omega
      have hk6 : (k : Int) < 6 := by omega
      have hlt' : (k : Int) < (N : Int) := by omega
      have HK := Ap.of (show k < 6 by omega)
      have HLT := Ap.of hlt
      clear hp
      have LT := Ap.of O.out.lt
      have OB := Ap.of O.out.1
      have hbs := BL.out.size
      have X1 := Ap.of (Own.below O.out (bel_alloc wr (.cells #[.string (nmK k), .string p, .bool false] 46)))
      have X3 : Ap (KSp.R (wr.alloc (.cells #[.string (nmK k), .string p, .bool false] 46)) (fun j => wr.heap.size ≤ j) (nmK k, p) [.string (nmK k), .string p, .bool false]) := Ap.of ⟨rfl, by show (nmK k).size ≤ maxLen; rw [nm_size HK.out]; unfold maxLen; decide, Nat.le_trans HP.out (by unfold maxLen; decide)⟩
      clear O
      go_upto_region 5 with fail
      go_region_law (refine step_append (W := (wr.alloc (.cells #[.string (nmK k), .string p, .bool false] 46)).drew) (K := KSp) (gx := wr.heap.size) (v := .slice A0 k c0) (tx := 46) (e := 46) (B := w.heap.size) (ok := fun j => w.heap.size ≤ j) (okx := fun j => wr.heap.size ≤ j) (xs := xs) (x := (nmK k, p)) (cs := [.string (nmK k), .string p, .bool false]) rfl (.tmp 17) (.tmp 28) 41 i0 _ 40 rfl Tryd.underlying41 HI.out.1 HI.out.2.1 HI.out.2.2.1 HI.out.2.2.2 rfl (Nat.succ_pos 2) rfl rfl (X1.out.below (Below.refl _ _).drew) (blk_new (by simp)) (Knd.below X3.out (Below.refl _ _).drew) (fun j hj => ⟨by omega, fun he => by have := (LT.out j he.symm).2; omega⟩) (by intro j hj; simp at hj; omega) (by rw [HXL.out]; omega) (by rw [HXL.out]; omega) (by simp; omega) ?_; intro v5 w5 hO5 honly; (have O5 := Ap.of hO5); (have ON5 := Ap.of honly); clear hO5 honly; obtain ⟨A5, c5, hv5, _, _⟩ := O5.out.slice; rw [show (xs ++ [(nmK k, p)]).length = k + 1 from by simp [HXL.out]] at hv5; subst hv5)
      all_goals
        (go_wp2_with fail
         go_roundw
         case rel =>
           have hb0 : Below w.heap.size w ((wr.alloc (.cells #[.string (nmK k), .string p, .bool false] 46)).drew) := (BL.out.alloc (by omega) _).drew
           have bl5 := bel_only hb0 (by simp; omega) ON5.out (fun j he => OB.out j he)
           refine ⟨k + 1, A5, c5, xs ++ [(nmK k, p)], by have := HLT.out; omega, by go_num, rfl, Ap.of (by simp [HXL.out]), Ap.of ?_, O5, Ap.of bl5⟩
           intro s hs
           rcases List.mem_append.1 hs with hs | hs
           · exact HNE.out s hs
           · rw [List.mem_singleton.1 hs]; exact nm_ne HK.out
         case measure => have := HLT.out; simp [intOf]; omega)
    · obtain rfl : k = N := by omega
      obtain ⟨A6, c6, hv6, hrow⟩ := O.out.row
      rw [HXL.out] at hv6 hrow
      injection hv6 with hv6 _ hv7
      subst hv6 hv7
      have HROW := Ap.of hrow.bound
      clear hrow
      go_wp2_with fail
      go_ret
      exact ⟨_, _, _, rfl, xs, HROW.out, hN6, fun a b h => HNE.out (a, b) h, BL.out⟩
end Go.Proofs.YtlomieopppndeaaDoor
/- append(s[:k:k], ys...): a new row; what s lies in is left as it is. -/
namespace Go.Proofs.YtlomieopppndeaaDoor
open Go.RowKit

section
variable {P : Program} {ops : Array Oper} {rest : List Oper} {o : Oper} {a : Act} {Q : Exit → Act → World → Prop} {W : World}
theorem run_append_zero {P : Program} (w : World) (t ty e : TypeId) (i : TypeInfo) (ht : P.underlying t = some (.slice e)) (hi : P.info? e = some i) (b off n cap : Nat) (hn : n ≤ cap) (A : Option Addr) (c : Nat) :
    (Builtin.append_ #[t, t] ty #[.slice (some ⟨b, off, none⟩) n cap, .slice A 0 c]).run P w = .ok (.slice (some ⟨b, off, none⟩) n cap) w := by
  cases A with
  | some ad =>
    have := run_append_room_cells (P := P) w t ty e i ht hi b off n cap ad 0 c [] (by simp) (fun j u h => by simp at h) (fun u h => by simp at h) (by omega) (fun j h => by simp at h) (fun j h => by simp at h)
    exact this
  | none => simp [Builtin.append_, run_underlying ht, sizeOf, typeInfo, hi, Builtin.lenOf, Builtin.firstCells, hn, storeCells]
theorem op_appendF {α : Type} {K : Knd α} {e : TypeId} {ok : Nat → Prop} {xs ys : List α} {g off k : Nat} {A : Option Addr} {m c : Nat} {Kc : Act → World → Prop} (s y : Operand) (t : TypeId) (i : TypeInfo) (z : Value) (bytes : Nat)
    (ho : o.op = .call { callee := .builtin .append, args := #[s, y], argTypes := #[t, t] }) (ht : P.underlying t = some (.slice e)) (hi : P.info? e = some i) (hz : i.zero = some z) (hsize : i.size = K.sz) (hby : i.bytes = bytes) (hzs : z.cells.size = K.sz) (hsz : 0 < K.sz)
    (hs : a.eval s = .slice (some ⟨g, off, none⟩) k k) (hy : a.eval y = .slice A m c) (h1 : Row K W ok (some ⟨g, off, none⟩) k k xs) (h2 : Row K W ok A m c ys) (hok : ∀ j, W.heap.size ≤ j → ok j)
    (h63 : k + m ≤ maxLen) (hbytes : (k + m) * bytes ≤ 140737488355328)
    (h : ∀ A' c' w', Row K w' ok A' (k + m) c' (xs ++ ys) → Below W.heap.size W w' → Kc (a.put o.dst (.slice A' (k + m) c')) w') : Oper.wp P o a W Kc Q := by
  by_cases hm : m = 0
  · subst hm
    obtain rfl : ys = [] := List.eq_nil_of_length_eq_zero h2.length
    have hrun := run_append_zero (P := P) W t o.type e i ht hi g off k k (Nat.le_refl _) A c
    unfold Oper.wp execOp
    simp only [ho, resolve, invoke, builtin, Sem.run_bind, Sem.run_pure, Result.andThen_ok, List.map_toArray, List.map_cons, List.map_nil, hs, hy, hrun]
    exact h _ _ W (by rw [List.append_nil]; exact h1) (Below.refl _ _)
  · obtain ⟨a0, rfl⟩ : ∃ a0, A = some a0 := by
      rcases h2 with ⟨_, h0, _⟩ | ⟨g2, off2, h0, _⟩
      · exact (hm h0).elim
      · exact ⟨_, h0⟩
    obtain ⟨css1, hl1, hr1, hf1, _, hc1, _⟩ := h1.flat hsz _ rfl
    obtain ⟨css2, hl2, hr2, hf2, _, hc2, _⟩ := h2.flat hsz a0 rfl
    have hxl := h1.length
    have hyl := h2.length
    obtain ⟨v', w', hr, hown, hg⟩ := run_append_arg_grows (P := P) W t o.type e i z K.sz bytes ht hi hz hsize hby hzs hsz ⟨g, off, none⟩ k k css1.flatten hf1 hc1 a0 m c css2.flatten hf2 hc2 (by omega) h63 hbytes
    have hO : Only (fun j => (none : Option Nat) = some j) W w' := Only.of_grown hg
    have hlt := hown.lt
    have hOwn : Own K e W.heap.size w' ok v' (xs ++ ys) := by
      refine ⟨fun g' hg' => hok g' (hlt g' hg').1, css1 ++ css2, by simp [hl1, hl2], ?_, ?_⟩
      · rw [List.flatten_append, List.length_append, hxl, hyl]
        exact hown
      · intro j y hj
        have hv' : ∀ j, j < W.heap.size → some j ≠ v'.ownBlock := fun j hj he => by
          have := (hlt j he.symm).1
          omega
        have hmv : ∀ {x cs}, K.R W ok x cs → K.R w' (fun j => ok j ∧ some j ≠ v'.ownBlock) x cs := fun hx =>
          K.mono (fun j hj => ⟨hj.1, hv' j hj.2⟩) (K.move (fun j hj => hO.block j hj.2 (fun e => by cases e)) (K.bound hx))
        rcases Nat.lt_or_ge j xs.length with hlt | hge
        · rw [List.getElem?_append_left hlt] at hj
          obtain ⟨cs1, a1, b1⟩ := hr1 j y hj
          exact ⟨cs1, by rw [List.getElem?_append_left (by omega)]; exact a1, hmv b1⟩
        · rw [List.getElem?_append_right hge] at hj
          obtain ⟨cs2, a2, hx⟩ := hr2 _ y hj
          exact ⟨cs2, by rw [List.getElem?_append_right (by omega), hl1]; exact a2, hmv hx⟩
    obtain ⟨A', c', hv, hrow⟩ := hOwn.row
    rw [List.length_append, hxl, hyl] at hv hrow
    subst hv
    unfold Oper.wp execOp
    simp only [ho, resolve, invoke, builtin, Sem.run_bind, Sem.run_pure, Result.andThen_ok, List.map_toArray, List.map_cons, List.map_nil, hs, hy, hr]
    exact h A' c' w' hrow (bel_only (Below.refl _ _) (Nat.le_refl _) hO (fun j he => by cases he))
theorem step_appendF {α : Type} {K : Knd α} {e : TypeId} {ok : Nat → Prop} {xs ys : List α} {g off k : Nat} {A : Option Addr} {m c : Nat} {Kc : Act → World → Prop} {E : Prop} (hgd : o.guard = none) (s y : Operand) (t : TypeId) (i : TypeInfo) (z : Value) (bytes : Nat)
    (ho : o.op = .call { callee := .builtin .append, args := #[s, y], argTypes := #[t, t] }) (ht : P.underlying t = some (.slice e)) (hi : P.info? e = some i) (hz : i.zero = some z) (hsize : i.size = K.sz) (hby : i.bytes = bytes) (hzs : z.cells.size = K.sz) (hsz : 0 < K.sz)
    (hs : a.eval s = .slice (some ⟨g, off, none⟩) k k) (hy : a.eval y = .slice A m c) (h1 : Row K W ok (some ⟨g, off, none⟩) k k xs) (h2 : Row K W ok A m c ys) (hok : ∀ j, W.heap.size ≤ j → ok j)
    (h63 : k + m ≤ maxLen) (hbytes : (k + m) * bytes ≤ 140737488355328)
    (h : ∀ A' c' w', Row K w' ok A' (k + m) c' (xs ++ ys) → Below W.heap.size W w' → Kc (a.put o.dst (.slice A' (k + m) c')) w') : if Region.wanted o (yielded ops a.tmps) = true then Oper.wp P o a W Kc Q else E := by
  have hw : Region.wanted o (yielded ops a.tmps) = true := by simp [Region.wanted, hgd]
  rw [if_pos hw]
  exact op_appendF s y t i z bytes ho ht hi hz hsize hby hzs hsz hs hy h1 h2 hok h63 hbytes h
end
end Go.Proofs.YtlomieopppndeaaDoor
/- PlanFewer's walk: the pick without an index that was not picked. -/
namespace Go.Proofs.YtlomieopppndeaaDoor
open Go.RowKit

theorem Row.first {α : Type} {K : Knd α} {w : World} {ok : Nat → Prop} {g off n c k : Nat} {xs : List α} (h : Row K w ok (some ⟨g, off, none⟩) n c xs) (hk : k ≤ n) : Row K w ok (some ⟨g, off, none⟩) k k (xs.take k) := by
  rcases h with ⟨h, _⟩ | ⟨g2, off2, h1, h2, h3, h4, h5, h6, h7⟩
  · cases h
  · refine .inr ⟨g2, off2, h1, by rw [List.length_take]; omega, Nat.le_refl _, by omega, h5, h6, fun i x hx => ?_⟩
    rw [List.getElem?_take] at hx
    split at hx
    · exact h7 i x hx
    · cases hx
theorem sp_to (g off m c k : Nat) (hk : k ≤ m) (hm : m ≤ c) (_hc : c ≤ 9223372036854775807) (W : World) : (Instr.slice 41 (.slice (some ⟨g, off, none⟩) m c) none (some (.int .i64 (k : Int))) (some (.int .i64 (k : Int)))).run Tryd.prog W = .ok (.slice (some ⟨g, off, none⟩) k k) W := by
  have e1 : (k : Int) ≤ (c : Int) := by omega
  simp [Instr.slice, Instr.sliceBounds, go_sem, e1]
theorem sp_from (g off m c k : Nat) (hk : k < m) (hm : m ≤ c) (_hc : c ≤ 9223372036854775807) : ∃ A2 : Option Addr, (∀ W : World, (Instr.slice 41 (.slice (some ⟨g, off, none⟩) m c) (some (.int .i64 ((k : Int) + 1))) none none).run Tryd.prog W = .ok (.slice A2 (m - (k + 1)) (c - (k + 1))) W) ∧
    ∀ (W : World) (ok : Nat → Prop) (xs : List (ByteArray × ByteArray)), Row KSp W ok (some ⟨g, off, none⟩) m c xs → Row KSp W ok A2 (m - (k + 1)) (c - (k + 1)) (xs.drop (k + 1)) := by
  have e2 : (k : Int) + 1 ≤ (m : Int) := by omega
  have e4 : ((k : Int) + 1).toNat = k + 1 := by omega
  have e5 : (0 : Int) ≤ (k : Int) + 1 := by omega
  by_cases hck : c = k + 1
  · refine ⟨some ⟨g, off, none⟩, fun W => ?_, fun W ok xs h => ?_⟩
    · simp [Instr.slice, Instr.sliceBounds, go_sem, e2, e4, e5, hck]
    · rcases h with ⟨h, _⟩ | ⟨g2, off2, h1, h2, h3, h4, h5, h6, h7⟩
      · cases h
      · refine .inr ⟨g2, off2, h1, by rw [List.length_drop]; omega, by omega, by omega, h5, h6, fun i x hx => ?_⟩
        rw [List.getElem?_drop] at hx
        have := (List.getElem?_eq_some_iff.1 hx).1
        omega
  · refine ⟨some ⟨g, off + (k + 1) * 3, none⟩, fun W => ?_, fun W ok xs h => ?_⟩
    · simp [Instr.slice, Instr.sliceBounds, go_sem, e2, e4, e5, hck]
    · rcases h with ⟨h, _⟩ | ⟨g2, off2, h1, h2, h3, h4, h5, h6, h7⟩
      · cases h
      · injection h1 with h1
        injection h1 with h1 h1'
        subst h1 h1'
        refine .inr ⟨g, off + (k + 1) * 3, rfl, by rw [List.length_drop]; omega, by omega, by omega, h5, h6, fun i x hx => ?_⟩
        rw [List.getElem?_drop] at hx
        obtain ⟨cs, hcs, hat⟩ := h7 _ x hx
        have hz : KSp.sz = 3 := rfl
        rw [hz] at hat ⊢
        exact ⟨cs, hcs, by rw [show off + (k + 1) * 3 + i * 3 = off + (k + 1 + i) * 3 by omega]; exact hat⟩
theorem pick_without (b : ByteArray → Bnd) (l : List (ByteArray × ByteArray)) (k : Nat) (x : ByteArray × ByteArray) (hx : l[k]? = some x) (hn : x.1 ≠ (pickD b l).name) : pickD b (l.take k ++ l.drop (k + 1)) = pickD b l := by
  rw [← List.eraseIdx_eq_take_drop_succ]
  exact pick_fewer b l k x hx hn
set_option maxRecDepth 100000 in
set_option maxHeartbeats 16000000 in
theorem fewer_calls (A0 : Option Addr) (n0 c0 : Nat) (A1 : Option Addr) (n1 c1 : Nat) (at_ : Int) (w : World) (b0 : Bs w (fun k => k < w.heap.size) A0 n0 c0) (b1 : Bs w (fun k => k < w.heap.size) A1 n1 c1) (ba : 0 ≤ at_ ∧ at_ ≤ 255) (G : PbG w) :
    Calls Tryd.prog 5 #[.slice A0 n0 c0, .slice A1 n1 c1, .int .u8 at_] w fun e w' => e = .returned (.bool true) ∧ Below w.heap.size w w' := by
  have B0 := Ap.of b0
  have B1 := Ap.of b1
  have GG := Ap.of G
  have h255 := ba.2
  have h00 := ba.1
  clear b0 b1 G ba
  obtain ⟨i0, hi, hzz⟩ := Option.map_eq_some_iff.1 Tryd.infoSp
  simp only [Prod.mk.injEq] at hzz
  have HI := Ap.of (And.intro hi hzz)
  clear hi hzz
  go_enter Tryd.func5, Tryd.ntmps5
  go_wp2_with fail
  refine (pawake_calls w GG.out.pl.fil.par).mono ?_
  rintro e w1 ⟨rfl, hb⟩
  have HB1 := Ap.of hb
  have G1 := Ap.of (GG.out.below hb)
  clear hb
  go_wp2_with fail
  refine (of17_calls A0 n0 c0 _ w1 (fun k hk => Nat.lt_of_lt_of_le hk HB1.out.size) (B0.out.below HB1.out) G1.out.pl).mono ?_
  rintro e w2 ⟨f, la, ln, lc, fa, fn, fc, sa, sn, sc, is, rfl, hb, hok⟩
  have hbU := bel_step hb (bel_alloc w2 (.cells #[.int .i64 f.op, .string f.path, .int .i64 f.val.kind, .int .i64 f.val.int, .string f.val.text, .slice la ln lc, .slice fa fn fc, .slice sa sn sc] 32))
  have HBU := Ap.of (bel_step HB1.out hbU)
  have GU := Ap.of (G1.out.below hbU)
  have BF := Ap.of (blk_new (w := w2) (k := w2.heap.size) (o := .cells #[.int .i64 f.op, .string f.path, .int .i64 f.val.kind, .int .i64 f.val.int, .string f.val.text, .slice la ln lc, .slice fa fn fc, .slice sa sn sc] 32) rfl)
  have HOK := Ap.of hok
  clear hb hok hbU
  cases is with
  | false =>
    go_wp2_with fail
    go_ret
    exact ⟨rfl, HBU.out⟩
  | true =>
    obtain ⟨v, hdv, hpv, hR⟩ := HOK.out rfl
    have HR := Ap.of (Knd.below hR (bel_alloc w2 (.cells #[.int .i64 f.op, .string f.path, .int .i64 f.val.kind, .int .i64 f.val.int, .string f.val.text, .slice la ln lc, .slice fa fn fc, .slice sa sn sc] 32)))
    have HS := Ap.of (SubsN_le (by decide : 9 ≤ 13) (doc_subs 3 11 v f hdv hpv))
    have HC := Ap.of (doc_conds 3 11 v f hdv hpv 13)
    clear hdv hpv hR HOK
    go_upto_region 6 with fail
    generalize w2.alloc (.cells #[.int .i64 f.op, .string f.path, .int .i64 f.val.kind, .int .i64 f.val.int, .string f.val.text, .slice la ln lc, .slice fa fn fc, .slice sa sn sc] 32) = U at *
    generalize w2.heap.size = g7 at *
    go_wp2_with fail
    refine (specs_calls A1 n1 c1 U _ (fun k hk => Nat.lt_of_lt_of_le hk HBU.out.size) (B1.out.below HBU.out) GU.out).mono ?_
    rintro e w3 ⟨A, m, c, sps, rfl, hrow, hm6, hne, hb⟩
    have HB3 := Ap.of (bel_step HBU.out hb)
    have BF3 := Ap.of (blk_bel BF.out hb)
    have HRW := Ap.of (hrow.mono (ok' := fun _ => True) (fun _ _ => trivial))
    have HPK := Ap.of (fun W (A : Option Addr) (n c : Nat) (l : List (ByteArray × ByteArray)) (hW : Below w3.heap.size w3 W) (hn : ∀ s ∈ l, s.1 ≠ ⟨#[]⟩) (hr : Row KSp W (fun _ => True) A n c l) => pick_calls 13 11 f la ln lc fa fn fc sa sn sc A n c l (fun k => k < W.heap.size) W (fun k hk => hk) (by decide) (by decide) HS.out HC.out hn (GU.out.below (bel_step hb hW)).pl.fil.par (Knd.below HR.out (bel_step hb hW)) (hr.bound.mono (fun _ h => h.2)))
    have HNE := Ap.of hne
    have HCAP := Ap.of hrow.cap
    have HLEN := Ap.of hrow.length
    clear hrow hne hb BF HR HS HC
    generalize hbd : (fun p => boundsD 11 13 f p) = b at *
    clear hbd
    have HP3 := Ap.of (HPK.out w3 A m c sps (Below.refl _ _) HNE.out HRW.out)
    have HWO := Ap.of (pick_without b sps)
    have HNIL := Ap.of (show sps = [] → pickD b sps = pln0 from fun h => by rw [h]; rfl)
    unfold PlnP at HPK HP3
    have cf := blk_cells BF3.out
    have lf := blk_lt BF3.out
    generalize hq : pickD b sps = q at *
    obtain ⟨qn, qf, qt⟩ := q
    have HQ := Ap.of hq
    clear hq
    go_wp2_with fail
    refine HP3.out.mono ?_
    rintro e w4 ⟨rfl, hb⟩
    have hb4 := bel_step hb (bel_alloc w4 (.cells #[.string qn, .string qf, .string qt, .bool false] 44))
    have HB4 := Ap.of hb4
    have BF4 := Ap.of (blk_bel BF3.out hb4)
    have BQ := Ap.of (blk_new (w := w4) (k := w4.heap.size) (o := .cells #[.string qn, .string qf, .string qt, .bool false] 44) rfl)
    have hg0 := gdPlan
    have hq0 : ∀ w, (Op.equalIn 10000 44 (.agg #[.string qn, .string qf, .string qt, .bool false]) (.agg #[.string qn, .string qf, .string qt, .bool false])).run Tryd.prog w = .ok true w := fun w => by rw [eqPlan]; simp
    clear hb hb4 HP3 cf lf
    go_upto_region 8 with fail
    generalize w4.alloc (.cells #[.string qn, .string qf, .string qt, .bool false] 44) = V at *
    generalize w4.heap.size = g10 at *
    have cq := blk_cells BQ.out
    have lq := blk_lt BQ.out
    by_cases hm : m = 0
    · subst hm
      have hqq := HNIL.out (List.eq_nil_of_length_eq_zero HLEN.out)
      have e1 : qn = ⟨#[]⟩ := congrArg Pln.name hqq
      have e2 : qf = ⟨#[]⟩ := congrArg Pln.fro hqq
      have e3 : qt = ⟨#[]⟩ := congrArg Pln.til hqq
      subst e1 e2 e3
      have HBE := Ap.of (bel_step HB3.out HB4.out)
      clear hqq
      go_wp2_with fail
      go_ret
      exact ⟨rfl, HBE.out⟩
    · obtain ⟨K, hK, hKm⟩ : ∃ K : Nat, at_ % (m : Int) = (K : Int) ∧ K < m := by
        have h1 := Int.emod_nonneg at_ (show (m : Int) ≠ 0 by omega)
        have h2 := Int.emod_lt_of_pos at_ (show (0 : Int) < (m : Int) by omega)
        exact ⟨(at_ % (m : Int)).toNat, by omega, by omega⟩
      have hKt : at_.tmod (m : Int) = (K : Int) := by rw [Int.tmod_eq_emod_of_nonneg h00, hK]
      have hm0 : ¬ (m : Int) = 0 := by omega
      have hmb : ((m : Int) == 0) = false := by simpa using hm
      have hKi : (K : Int) < (m : Int) := by omega
      have hK0 : (0 : Int) ≤ (K : Int) := by omega
      obtain ⟨g2, off, nm, p, rfl, hx, c0, c1, c2⟩ := sp_cells (HRW.out.below HB4.out) hKm
      have HX := Ap.of hx
      have lc0 := World.block_lt_of_cell? _ _ c0
      have HKM := Ap.of hKm
      clear hx hK
      go_upto_region 11 with fail
      by_cases hnq : nm = qn
      · subst hnq
        have HBE := Ap.of (bel_step HB3.out HB4.out)
        clear HWO HNIL HQ HPK
        go_region
        all_goals
          go_wp2_with fail
          go_ret
          exact ⟨rfl, HBE.out.drew⟩
      · have hn1 : ¬ nm.toList = qn.toList := fun h => hnq (tl_eq h)
        have hn2 : (nm.toList == qn.toList) = false := by simpa using hn1
        have HW2 := Ap.of (HWO.out K (nm, p) HX.out hnq)
        have HTO := sp_to g2 off m c K (by omega) HCAP.out.1 HCAP.out.2
        obtain ⟨A2, hfr, hfr2⟩ := sp_from g2 off m c K hKm HCAP.out.1 HCAP.out.2
        have HFR2 := Ap.of hfr2
        have hwr := wrapK K (by omega)
        clear hfr2
        have HRV := Ap.of (HRW.out.below HB4.out)
        have HR1 := Ap.of (fun W (hW : Below V.heap.size V W) => (HRV.out.below hW).first (Nat.le_of_lt HKM.out))
        have HR2 := Ap.of (fun W (hW : Below V.heap.size V W) => HFR2.out W _ _ (HRV.out.below hW))
        have HPA := Ap.of (show ∀ (W : World) (A' : Option Addr) (c' : Nat), Below V.heap.size V W → Row KSp W (fun _ => True) A' (K + (m - (K + 1))) c' (sps.take K ++ sps.drop (K + 1)) → Calls Tryd.prog 14 #[.agg #[.int .i64 f.op, .string f.path, .int .i64 f.val.kind, .int .i64 f.val.int, .string f.val.text, .slice la ln lc, .slice fa fn fc, .slice sa sn sc], .slice A' (K + (m - (K + 1))) c'] W (fun e w' => e = .returned (.agg #[.string qn, .string qf, .string qt, .bool false]) ∧ Below W.heap.size W w') from fun W A' c' hW hr => by
          have h := HPK.out W A' _ c' (sps.take K ++ sps.drop (K + 1)) (bel_step HB4.out hW) (fun s hs => by
            rcases List.mem_append.1 hs with hs | hs
            · exact HNE.out s (List.mem_of_mem_take hs)
            · exact HNE.out s (List.mem_of_mem_drop hs)) hr
          rw [HW2.out] at h
          exact h)
        have HM6 := Ap.of (show K + (m - (K + 1)) ≤ 6 by have := HKM.out; omega)
        have hks : ∀ W, Below V.heap.size V W → (Below V.heap.size V W ∧ W.cell? ⟨g7, 0, none⟩ = some (.int .i64 f.op) ∧ W.cell? ⟨g7, 1, none⟩ = some (.string f.path) ∧ W.cell? ⟨g7, 2, none⟩ = some (.int .i64 f.val.kind) ∧ W.cell? ⟨g7, 3, none⟩ = some (.int .i64 f.val.int) ∧ W.cell? ⟨g7, 4, none⟩ = some (.string f.val.text) ∧ W.cell? ⟨g7, 5, none⟩ = some (.slice la ln lc) ∧ W.cell? ⟨g7, 6, none⟩ = some (.slice fa fn fc) ∧ W.cell? ⟨g7, 7, none⟩ = some (.slice sa sn sc) ∧ W.cell? ⟨g10, 0, none⟩ = some (.string qn) ∧ W.cell? ⟨g10, 1, none⟩ = some (.string qf) ∧ W.cell? ⟨g10, 2, none⟩ = some (.string qt) ∧ W.cell? ⟨g10, 3, none⟩ = some (.bool false)) := by
          intro W ho
          have e7 := blk_cells (blk_bel BF4.out ho)
          have eq := blk_cells (blk_bel BQ.out ho)
          exact ⟨ho, e7 0, e7 1, e7 2, e7 3, e7 4, e7 5, e7 6, e7 7, eq 0, eq 1, eq 2, eq 3⟩
        have KS := Ap.of hks
        clear hks
        go_region
        all_goals go_upto_region 13 with fail
        clear HWO HPK HRW HRV HFR2 HNIL HQ hnq hn1 hn2 cq lq c0 c1 c2 lc0 HX HCAP HLEN hm0 hmb hKt
        go_region_held3 (fun W => Below V.heap.size V W ∧ W.cell? ⟨g7, 0, none⟩ = some (.int .i64 f.op) ∧ W.cell? ⟨g7, 1, none⟩ = some (.string f.path) ∧ W.cell? ⟨g7, 2, none⟩ = some (.int .i64 f.val.kind) ∧ W.cell? ⟨g7, 3, none⟩ = some (.int .i64 f.val.int) ∧ W.cell? ⟨g7, 4, none⟩ = some (.string f.val.text) ∧ W.cell? ⟨g7, 5, none⟩ = some (.slice la ln lc) ∧ W.cell? ⟨g7, 6, none⟩ = some (.slice fa fn fc) ∧ W.cell? ⟨g7, 7, none⟩ = some (.slice sa sn sc) ∧ W.cell? ⟨g10, 0, none⟩ = some (.string qn) ∧ W.cell? ⟨g10, 1, none⟩ = some (.string qf) ∧ W.cell? ⟨g10, 2, none⟩ = some (.string qt) ∧ W.cell? ⟨g10, 3, none⟩ = some (.bool false))
          (first
            | with_reducible assumption
            | (with_reducible (refine KS.out _ ?_; exact Below.refl _ _))
            | (with_reducible (refine KS.out _ ?_; apply Below.drew; exact Below.refl _ _))
            | (with_reducible (refine KS.out _ ?_; apply Below.drew; apply Below.drew; exact Below.refl _ _))
            | (with_reducible (refine KS.out _ ?_; apply bel_stepB _ _ hb3; exact And.left (by assumption); exact (Below.size (And.left (by assumption)))))
            | (with_reducible (refine KS.out _ ?_; apply Below.alloc; exact (And.left (by assumption)); exact (Below.size (And.left (by assumption))))))
          (first
            | (refine step_appendF (K := KSp) (e := 46) (ok := fun _ => True) (g := g2) (off := off) (k := K) (A := A2) (m := m - (K + 1)) (c := c - (K + 1)) (xs := sps.take K) (ys := sps.drop (K + 1)) rfl (.tmp 49) (.tmp 53) 41 i0 _ 40 rfl Tryd.underlying41 HI.out.1 HI.out.2.1 HI.out.2.2.1 HI.out.2.2.2 rfl (Nat.succ_pos 2) (by simp [Act.eval]) (by simp [Act.eval]) (HR1.out _ (And.left (by assumption))) (HR2.out _ (And.left (by assumption))) (fun _ _ => trivial) (Nat.le_trans HM6.out (by unfold maxLen; decide)) (by have := HM6.out; omega) ?_; intro A5 c5 w9 hr5 hb3)
            | (go_at_call 14; (with_reducible apply Calls.mono); ((with_reducible apply HPA.out); (exact And.left (by assumption)); (exact hr5)); rintro en w9 ⟨rfl, hb3⟩))
        all_goals
          have HBL := Ap.of (show Below V.heap.size V w9 from And.left (by assumption))
          have HBE := Ap.of (bel_step HB3.out (bel_step HB4.out HBL.out))
          go_wp2_with fail
          go_ret
          exact ⟨rfl, HBE.out⟩
end Go.Proofs.YtlomieopppndeaaDoor
