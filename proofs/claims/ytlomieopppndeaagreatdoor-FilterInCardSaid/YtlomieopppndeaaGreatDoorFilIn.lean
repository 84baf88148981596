/- FilterIn's walk. -/
import Derived.Test.YtlomieopppndeaaGreatDoorFilAwake
import Derived.Test.YtlomieopppndeaaGreatDoorDoc03
import Derived.Test.YtlomieopppndeaaGreatDoorGen1
import Derived.Deep.RegionLaw
namespace Go.Proofs.YtlomieopppndeaaGreatDoor
open Go.RowKit
attribute [local go_sem] max2_int min2_int

/-- What FilterIn reads. -/
structure FjG (w : World) : Prop where
  aw : AwG w
  laid : Laid w
theorem FjG.below {w w' : World} (h : FjG w) (hb : Below w.heap.size w w') : FjG w' := ⟨h.aw.below hb, h.laid.below hb⟩
theorem Tryz.infoVi : (Tryz.prog.info? 28).map (fun i => (i.zero, i.size, i.bytes)) = some (some (.agg #[.int .i64 0, .int .i64 0, .string ⟨#[]⟩, .slice none 0 0, .slice none 0 0]), 5, 80) := by kernel_rfl
def isP (s : ByteArray) (v doc : Val) (op : Int) : Bool := condD 5 (.mk op s v []) doc
theorem isP_in (s : ByteArray) (xs : List Val) (doc : Val) : isP s (.mk 4 0 ⟨#[]⟩ xs []) doc 8 = xs.any (fun y => isP s y doc 2) := by
  have h8 : ∀ v op, op ≠ 9 → isP s v doc op = match foundV doc s with | none => op == 3 | some x => oneK op (cmpD 5 x v) (v.list.any (fun y => cmpD 5 x y == 0)) := fun v op h => by
    show condK 5 (.mk op s v []) (foundV doc s) = _
    cases foundV doc s with
    | none => exact if_neg h
    | some x => exact if_neg h
  rw [h8 _ 8 (by decide)]
  have h2 : (fun y => isP s y doc 2) = fun y => (match foundV doc s with | none => false | some x => cmpD 5 x y == 0) := by
    funext y
    rw [h8 _ 2 (by decide)]
    cases foundV doc s with
    | none => rfl
    | some x => rfl
  rw [h2]
  cases foundV doc s with
  | none => simp
  | some x => rfl
theorem leafp_calls (op : Int) (h2 : 2 ≤ op) (h9 : op ≤ 9223372036854775807) (s : ByteArray) (hs : s.size ≤ 1000) (u doc : Val) (la : Option Addr) (ln lc : Nat) (fa : Option Addr) (fn fc : Nat) (la2 : Option Addr) (ln2 lc2 : Nat) (fa2 : Option Addr) (fn2 fc2 : Nat) (N : Nat) (W : World) (hF : Few N doc) (G : AwG W) (hu : (KV 5).R W (fun _ => True) u [.int .i64 u.kind, .int .i64 u.int, .string u.text, .slice la ln lc, .slice fa fn fc]) (hx : (KV 5).R W (fun _ => True) doc [.int .i64 doc.kind, .int .i64 doc.int, .string doc.text, .slice la2 ln2 lc2, .slice fa2 fn2 fc2]) :
    Calls Tryz.prog 25 #[.agg #[.int .i64 op, .string s, .int .i64 u.kind, .int .i64 u.int, .string u.text, .slice la ln lc, .slice fa fn fc, .slice none 0 0], .agg #[.int .i64 doc.kind, .int .i64 doc.int, .string doc.text, .slice la2 ln2 lc2, .slice fa2 fn2 fc2]] W fun e w' => e = .returned (.bool (isP s u doc op)) ∧ Below W.heap.size W w' := by
  have h := match_calls 3 1 (.mk op s u []) la ln lc fa fn fc none 0 0 doc la2 ln2 lc2 fa2 fn2 fc2 N W hF ⟨by show s.size < 4294967281; omega, fun s h => by cases h⟩ G.fil.par G.fin (KF_mk (f := .mk op s u []) (show inI64 op from ⟨by omega, h9⟩) (by show s.size ≤ maxLen; unfold maxLen; omega) hu (Row.nil _ _ _)) hx
  have e : matchD 5 1 (.mk op s u []) doc = isP s u doc op := by
    show (if op = 0 then _ else if op = 1 then _ else condD 5 (.mk op s u []) doc) = _
    rw [if_neg (by omega), if_neg (by omega)]; rfl
  rw [e] at h
  exact h

/-- A call of small, as one step of a region that draws its order. -/
theorem step_small {ops : Array Oper} {o : Oper} {a : Act} {W : World} {Kc : Act → World → Prop} {Q : Exit → Act → World → Prop} {E : Prop} {R : Ending → World → Prop} (hgd : o.guard = none) (x : Operand) (t : TypeId) (v : Value)
    (ho : o.op = .call { callee := .value (.func 32), args := #[x], argTypes := #[t] }) (hv : a.eval x = v) (hC : Calls Tryz.prog 32 #[v] W R) (h : ∀ e w', R e w' → ∃ r, e = .returned r ∧ Kc (a.put o.dst r) w') : if Region.wanted o (yielded ops a.tmps) = true then Oper.wp Tryz.prog o a W Kc Q else E := by
  have hw : Region.wanted o (yielded ops a.tmps) = true := by simp [Region.wanted, hgd]
  rw [if_pos hw]
  have hr : (execOp a.eval o).run Tryz.prog W = .ok (.enter 32 #[v]) W := by
    have he : a.eval (.func 32) = .func (.func 32) #[] #[] := rfl
    unfold execOp
    simp only [ho, resolve, invoke, Sem.run_bind, List.map_toArray, List.map_cons, List.map_nil, hv, he]
    simp [callFunc, go_sem, Tryz.func32]
    rfl
  unfold Oper.wp
  rw [hr]
  refine hC.mono ?_
  intro e w' hr
  obtain ⟨r, rfl, hk⟩ := h e w' hr
  exact hk

set_option maxRecDepth 100000 in
set_option maxHeartbeats 4000000 in
theorem in_law_calls (A0 : Option Addr) (n0 c0 : Nat) (A1 : Option Addr) (n1 c1 : Nat) (w : World) (b0 : Bs w (fun k => k < w.heap.size) A0 n0 c0) (b1 : Bs w (fun k => k < w.heap.size) A1 n1 c1) (G : FjG w) :
    Calls Tryz.prog 9 #[.slice A0 n0 c0, .slice A1 n1 c1] w fun e w' => e = .returned (.bool true) ∧ Below w.heap.size w w' := by
  obtain ⟨N, hN⟩ : ∃ N : Nat, (if 20 < (n0 : Int) then 20 else (n0 : Int)) = (N : Int) := ⟨if 20 < n0 then 20 else n0, by split <;> split <;> omega⟩
  have hNl : N ≤ n0 := by split at hN <;> omega
  have hN20 : N ≤ 20 := by split at hN <;> omega
  have hrun := cutTo A0 n0 c0 N b0.1 b0.2.1 b0.2.2.1 hNl
  have B0 := Ap.of (b0.take hNl)
  have hn1 := b0.1
  have hn2 := b0.2.1
  have GG := Ap.of G
  have B1 := Ap.of b1
  obtain ⟨i0, hi, hzz⟩ := Option.map_eq_some_iff.1 Tryz.infoVi
  simp only [Prod.mk.injEq] at hzz
  have HI := Ap.of (And.intro hi hzz)
  clear G b1 b0 hi hzz
  go_enter Tryz.func9, Tryz.ntmps9
  go_wp2_with fail
  refine (fawake_calls w GG.out.aw).mono ?_
  rintro e w1 ⟨rfl, hb⟩
  have HB1 := Ap.of hb
  have G1 := Ap.of (GG.out.below hb)
  clear hb
  go_wp2_with fail
  refine (doc_calls A1 n1 c1 w1 _ (fun k hk => Nat.lt_of_lt_of_le hk HB1.out.size) G1.out.laid (B1.out.below HB1.out)).mono ?_
  rintro e w3 ⟨doc, la2, ln2, lc2, fa2, fn2, fc2, rfl, hd, hgd, hb⟩
  have HD3 := Ap.of ((KV 5).mono (ok' := fun _ => True) (fun _ _ => trivial) (KV_le (by decide) _ _ _ _ hd))
  have HF4 := Ap.of (Few.of_good hgd)
  have HB3 := Ap.of (bel_step HB1.out hb)
  have G3 := Ap.of (G1.out.below hb)
  clear hd hgd hb
  go_wp2_with fail
  have hb4 := bel_step (bel_alloc w3 (.cells #[.int .i64 doc.kind, .int .i64 doc.int, .string doc.text, .slice la2 ln2 lc2, .slice fa2 fn2 fc2] 28)) (bel_alloc _ (.cells #[.int .i64 4, .int .i64 0, .string ⟨#[]⟩, .slice none 0 0, .slice none 0 0] 28))
  have b5 := blk_old (o' := .cells #[.int .i64 4, .int .i64 0, .string ⟨#[]⟩, .slice none 0 0, .slice none 0 0] 28) (blk_new (w := w3) (k := w3.heap.size) (o := .cells #[.int .i64 doc.kind, .int .i64 doc.int, .string doc.text, .slice la2 ln2 lc2, .slice fa2 fn2 fc2] 28) rfl)
  have b6 := blk_new (w := w3.alloc (.cells #[.int .i64 doc.kind, .int .i64 doc.int, .string doc.text, .slice la2 ln2 lc2, .slice fa2 fn2 fc2] 28)) (k := w3.heap.size + 1) (o := .cells #[.int .i64 4, .int .i64 0, .string ⟨#[]⟩, .slice none 0 0, .slice none 0 0] 28) (by simp)
  have HS4 := Ap.of (show ((w3.alloc (.cells #[.int .i64 doc.kind, .int .i64 doc.int, .string doc.text, .slice la2 ln2 lc2, .slice fa2 fn2 fc2] 28)).alloc (.cells #[.int .i64 4, .int .i64 0, .string ⟨#[]⟩, .slice none 0 0, .slice none 0 0] 28)).heap.size = w3.heap.size + 2 by simp)
  have B04 := Ap.of ((B0.out.below HB3.out).below hb4)
  generalize (w3.alloc (.cells #[.int .i64 doc.kind, .int .i64 doc.int, .string doc.text, .slice la2 ln2 lc2, .slice fa2 fn2 fc2] 28)).alloc (.cells #[.int .i64 4, .int .i64 0, .string ⟨#[]⟩, .slice none 0 0, .slice none 0 0] 28) = W4 at *
  have HB4 := Ap.of hb4
  have HBD := Ap.of b5
  have HBL := Ap.of b6
  clear hb4 b5 b6
  go_loopw [7, 21] (fun va vi wr => ∃ (k : Nat) (la : Option Addr) (lc : Nat) (xs : List Val) (q : Bool), k ≤ N ∧ vi = .int .i64 k ∧ va = .bool q ∧ Ap (q = xs.any (fun y => isP ⟨#[97]⟩ y doc 2)) ∧ Ap (xs.length = k) ∧ Ap (wr.heap[w3.heap.size]? = some (.cells #[.int .i64 doc.kind, .int .i64 doc.int, .string doc.text, .slice la2 ln2 lc2, .slice fa2 fn2 fc2] 28 (0, 0))) ∧
    Ap (wr.heap[w3.heap.size + 1]? = some (.cells #[.int .i64 4, .int .i64 0, .string ⟨#[]⟩, .slice la k lc, .slice none 0 0] 28 (0, 0))) ∧ Ap (Own (KV 4) 28 (w3.heap.size + 2) wr (fun j => w3.heap.size + 2 ≤ j) (.slice la k lc) xs) ∧ Ap (Below w3.heap.size w3 wr)) (fun _ vi _ => N - (intOf vi).toNat)
  case atStart => exact ⟨0, none, 0, [], false, Nat.zero_le _, rfl, rfl, Ap.of rfl, Ap.of rfl, HBD, HBL, Ap.of (Own.nil _ _ _ _ _), Ap.of HB4.out⟩
  case round =>
    obtain ⟨k, la, lc, xs, q, hk, rfl, rfl, HQ, HXL, BD, BL, O, BW⟩ := hrel
    by_cases hlt : k < N
    · obtain ⟨_, _, _, h0 | ⟨g, off, hA, hg, hgl, hx⟩⟩ := B0.out.below (bel_step HB3.out BW.out)
      · omega
      obtain ⟨cb, hc, h0, h1⟩ := hx k hlt
      subst hA
      have lbx := World.block_lt_of_cell? wr _ hc
      have dl := blk_cells BL.out
      have fl := blk_free BL.out
      have ll := blk_lt BL.out
      have HLT := Ap.of hlt
      have HSM := Ap.of (fun W (hW : Below w3.heap.size w3 W) => small1_calls cb h0 h1 W (G3.out.below hW).laid)
      have LT := Ap.of O.out.lt
      have OB := Ap.of O.out.1
      clear hx hg
      go_wp2_with fail
      go_region_law (first
        | (refine step_small rfl (.tmp 27) 5 (.int .u8 cb) rfl rfl (HSM.out wr.drew (bel_step BW.out (bel_draw wr))) ?_; rintro e w5 ⟨x, va1, vn1, vc1, wa1, wn1, wc1, hz, rfl, hv, hb3⟩; refine ⟨_, rfl, ?_⟩; (have HV := Ap.of hv); (have HZ := Ap.of hz); (have HB5 := Ap.of (bel_step (bel_draw wr) hb3)); (have BL5 := Ap.of (blk_bel BL.out HB5.out)); (have dl := blk_cells BL5.out); (have fl := blk_free BL5.out); (have ll := blk_lt BL5.out); clear hv hz hb3)
        | (refine step_append (W := w5.alloc (.cells #[.int .i64 x.kind, .int .i64 x.int, .string x.text, .slice va1 vn1 vc1, .slice wa1 wn1 wc1] 28)) (K := KV 4) (gx := w5.heap.size) (v := .slice la k lc) (tx := 28) (e := 28) (B := w3.heap.size + 2) (ok := fun j => w3.heap.size + 2 ≤ j) (okx := fun j => wr.heap.size ≤ j) (xs := xs) (x := x) (cs := [.int .i64 x.kind, .int .i64 x.int, .string x.text, .slice va1 vn1 vc1, .slice wa1 wn1 wc1]) rfl (.tmp 26) (.tmp 29) 25 i0 _ 80 rfl Tryz.underlying25 HI.out.1 HI.out.2.1 HI.out.2.2.1 HI.out.2.2.2 rfl (Nat.succ_pos 4) rfl rfl ((O.out.below HB5.out).below (bel_alloc _ _)) (blk_new rfl) (Knd.below HV.out (bel_alloc _ _)) (fun j hj => ⟨by have := blk_lt BL.out; omega, fun he => by have := (LT.out j he.symm).2; omega⟩) (by intro j hj; have := blk_lt BL5.out; simp at hj; omega) (by rw [HXL.out]; have := HLT.out; omega) (by rw [HXL.out]; have := HLT.out; omega) (by have := blk_lt BL5.out; simp; omega) ?_; intro v5 w6 hO5 honly; (have O5 := Ap.of hO5); (have ON5 := Ap.of honly); clear hO5 honly; obtain ⟨A5, c5, hv5, _, _⟩ := O5.out.slice; rw [show (xs ++ [x]).length = k + 1 from by simp [HXL.out]] at hv5; subst hv5; (have b8 := blk_only (blk_old BL5.out) ON5.out (fun he => by have := OB.out _ he; omega)); (have c8 := blk_cells b8); (have f8 := blk_free b8); (have l8 := blk_lt b8); (have BL8 := Ap.of b8); clear b8))
      all_goals (
        have hs := Only.setCell w6 ⟨w3.heap.size + 1, 3, none⟩ (.slice A5 (k + 1) c5)
        have hb6 : Below w3.heap.size w3 w6 := bel_only (bel_stepB (bel_step BW.out HB5.out) (by have := blk_lt BL5.out; omega) (bel_alloc w5 (.cells #[.int .i64 x.kind, .int .i64 x.int, .string x.text, .slice va1 vn1 vc1, .slice wa1 wn1 wc1] 28))) (by have := blk_lt BL5.out; simp; omega) ON5.out (fun j he => by have := OB.out _ he; omega)
        have HBA := Ap.of (bel_only hb6 hb6.size hs (fun j he => by simp at he; omega))
        have HBLA := Ap.of (show (w6.setCell ⟨w3.heap.size + 1, 3, none⟩ (.slice A5 (k + 1) c5)).heap[w3.heap.size + 1]? = some (.cells #[.int .i64 4, .int .i64 0, .string ⟨#[]⟩, .slice A5 (k + 1) c5, .slice none 0 0] 28 (0, 0)) by simpa using blk_set BL8.out 3 (.slice A5 (k + 1) c5))
        have HBDA := Ap.of (blk_only (blk_only (blk_old (blk_bel BD.out HB5.out)) ON5.out (fun he => by have := OB.out _ he; omega)) hs (fun he => by simp at he))
        have HOA := Ap.of (O5.out.only hs (fun j hj he => by simp at he; omega))
        have HVA := Ap.of hs
        clear hs hb6 c8 f8 l8 dl fl ll hc lbx BL8 O5
        generalize w6.setCell ⟨w3.heap.size + 1, 3, none⟩ (.slice A5 (k + 1) c5) = WA at *
        have da := blk_cells HBDA.out
        have fa := blk_free HBDA.out
        have la9 := blk_lt HBDA.out
        have GA := Ap.of (fun W (hW : Below w3.heap.size w3 W) => (G3.out.below hW).aw)
        cases q with
        | true =>
          go_wp2_with fail
          go_region
          go_wp2_with fail
          go_roundw
          case rel => exact ⟨k + 1, A5, c5, xs ++ [x], true, by have := HLT.out; omega, by go_num, rfl, Ap.of (by rw [List.any_append, ← HQ.out]; rfl), Ap.of (by simp [HXL.out]), Ap.of (blk_draw HBDA.out), Ap.of (blk_draw HBLA.out), Ap.of (HOA.out.below (bel_draw _)), Ap.of (bel_step HBA.out (bel_draw _))⟩
          case measure => have := HLT.out; simp [intOf]; omega
        | false =>
          go_wp2_with fail
          go_region_with (first
            | (go_at_call 32; refine (HSM.out _ (bel_step HBA.out (bel_draw WA))).mono ?_; rintro e w7 ⟨y, ya1, yn1, yc1, za1, zn1, zc1, hz, rfl, hv, hb7⟩; (have HZ2 := Ap.of hz); (have HB7 := Ap.of (bel_step (bel_draw WA) hb7)); (have bd7 := blk_bel HBDA.out HB7.out); (have da := blk_cells bd7); (have fa := blk_free bd7); (have la9 := blk_lt bd7); (have hcall := leafp_calls 2 (by decide) (by decide) ⟨#[97]⟩ (by decide) y doc ya1 yn1 yc1 za1 zn1 zc1 la2 ln2 lc2 fa2 fn2 fc2 4 w7 HF4.out (GA.out _ (bel_step HBA.out HB7.out)) ((KV 5).mono (ok' := fun _ => True) (fun _ _ => trivial) (KV_le (by decide) _ _ _ _ hv)) (Knd.below HD3.out (bel_step HBA.out HB7.out))); (have HC := Ap.of hcall); clear hz hv hb7 bd7 hcall)
            | (go_at_call 25; refine HC.out.mono ?_; rintro e w8 ⟨rfl, hb8⟩; (have HB8 := Ap.of hb8); clear hb8))
          all_goals (
            go_wp2_with fail
            go_roundw
            case rel =>
              have hA8 := bel_step HB7.out HB8.out
              exact ⟨k + 1, A5, c5, xs ++ [x], _, by have := HLT.out; omega, by go_num, rfl, Ap.of (by rw [List.any_append, ← HQ.out, HZ.out, HZ2.out]; simp), Ap.of (by simp [HXL.out]), Ap.of (blk_bel HBDA.out hA8), Ap.of (blk_bel HBLA.out hA8), Ap.of (HOA.out.below hA8), Ap.of (bel_step HBA.out hA8)⟩
            case measure => have := HLT.out; simp [intOf]; omega))
    · obtain rfl : k = N := by omega
      obtain ⟨A6, c6, hv6, hrow⟩ := O.out.row
      rw [HXL.out] at hv6 hrow
      injection hv6 with hv6 _ hv7
      subst hv6 hv7
      have hcall : Calls Tryz.prog 25 #[.agg #[.int .i64 8, .string ⟨#[97]⟩, .int .i64 4, .int .i64 0, .string ⟨#[]⟩, .slice la k lc, .slice none 0 0, .slice none 0 0], .agg #[.int .i64 doc.kind, .int .i64 doc.int, .string doc.text, .slice la2 ln2 lc2, .slice fa2 fn2 fc2]] wr fun e w' => e = .returned (.bool q) ∧ Below wr.heap.size wr w' := by
        have h := leafp_calls 8 (by decide) (by decide) ⟨#[97]⟩ (by decide) (.mk 4 0 ⟨#[]⟩ xs []) doc la k lc none 0 0 la2 ln2 lc2 fa2 fn2 fc2 4 wr HF4.out (G3.out.below BW.out).aw ⟨la, k, lc, none, 0, 0, rfl, i64_4, i64_0, empty_small, hrow.mono (fun _ _ => trivial), Row.nil _ _ _⟩ (Knd.below HD3.out BW.out)
        rw [isP_in, ← HQ.out] at h
        exact h
      have HC := Ap.of hcall
      have dl := blk_cells BL.out
      have fl := blk_free BL.out
      have ll := blk_lt BL.out
      have da := blk_cells BD.out
      have fa := blk_free BD.out
      have lda := blk_lt BD.out
      clear hrow hcall
      rcases q with _ | _
      all_goals (
        go_wp2_with fail
        refine HC.out.mono ?_
        rintro e w9 ⟨rfl, hb⟩
        have HB9 := Ap.of hb
        clear hb
        go_wp2_with fail
        go_ret
        exact ⟨rfl, bel_step HB3.out (bel_step BW.out HB9.out)⟩)
end Go.Proofs.YtlomieopppndeaaGreatDoor
