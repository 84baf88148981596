/- The walk of RateBound: what was taken in each stretch of time. -/
import Derived.Test.YtgmeopkkdlajnaaE
namespace Go.Proofs.Ytgmeopkkdlajnaa
open Go.RowKit Go.Proofs.YtgmeopkkdlajnaaW.PrintWords Go.Proofs.YtgmeopkkdlajnaaW.PrintLast Go.Proofs.YtgmeopkkdlajnaaW.PrintMore
open PRateActs (IsS39 cellS39_0 cellS39_1 cellS39_2 cellS39_3)

/-- What is known of the times at which one was taken. -/
structure Inv (r bu l now : Int) (ts : List Int) : Prop where
  back : ∀ j : Nat, j < ts.length → ((ts.length : Int) - j) + l ≤ bu + r * (now - ts.getD j 0)
  all : ∀ i j : Nat, j ≤ i → i < ts.length → ((i : Int) - j + 1) ≤ bu + r * (ts.getD i 0 - ts.getD j 0)
  low : ∀ j : Nat, j < ts.length → 0 ≤ ts.getD j 0 ∧ ts.getD j 0 ≤ now

theorem Inv.nil (r bu l now : Int) : Inv r bu l now [] := ⟨fun _ h => by simp at h, fun _ _ _ h => by simp at h, fun _ h => by simp at h⟩
theorem getD_snoc_lt {ts : List Int} {x : Int} {j : Nat} (h : j < ts.length) : (ts ++ [x]).getD j 0 = ts.getD j 0 := by
  simp [List.getD_eq_getElem?_getD, List.getElem?_append_left h]
theorem getD_snoc_eq {ts : List Int} {x : Int} : (ts ++ [x]).getD ts.length 0 = x := by
  simp [List.getD_eq_getElem?_getD]
/-- Time passes, nothing is taken. -/
theorem Inv.wait {r bu l now : Int} {ts : List Int} (h : Inv r bu l now ts) {t : Int} (ht : now ≤ t) {q : Int} (hq : q ≤ l + r * (t - now)) : Inv r bu q t ts := by
  refine ⟨fun j hj => ?_, h.all, fun j hj => ⟨(h.low j hj).1, by have := (h.low j hj).2; omega⟩⟩
  have h1 := h.back j hj
  have e : r * (t - ts.getD j 0) = r * (t - now) + r * (now - ts.getD j 0) := by rw [← Int.mul_add]; congr 1; omega
  rw [e]
  omega
/-- One is taken. -/
theorem Inv.take {r bu l now : Int} {ts : List Int} (h : Inv r bu l now ts) (hl : 1 ≤ l) (hb : l ≤ bu) (h0 : 0 ≤ now) : Inv r bu (l - 1) now (ts ++ [now]) := by
  have hlen : (ts ++ [now]).length = ts.length + 1 := by simp
  refine ⟨fun j hj => ?_, fun i j hji hi => ?_, fun j hj => ?_⟩
  · rw [hlen] at hj ⊢
    rcases Nat.lt_or_eq_of_le (Nat.le_of_lt_succ hj) with hlt | rfl
    · rw [getD_snoc_lt hlt]
      have := h.back j hlt
      omega
    · rw [getD_snoc_eq]
      simp
      omega
  · rw [hlen] at hi
    rcases Nat.lt_or_eq_of_le (Nat.le_of_lt_succ hi) with hlt | rfl
    · rw [getD_snoc_lt hlt, getD_snoc_lt (by omega)]
      exact h.all i j hji hlt
    · rw [getD_snoc_eq]
      rcases Nat.lt_or_eq_of_le hji with hlt | rfl
      · rw [getD_snoc_lt hlt]
        have := h.back j hlt
        omega
      · rw [getD_snoc_eq]
        simp
        omega
  · rw [hlen] at hj
    rcases Nat.lt_or_eq_of_le (Nat.le_of_lt_succ hj) with hlt | rfl
    · rw [getD_snoc_lt hlt]
      exact h.low j hlt
    · rw [getD_snoc_eq]
      omega
theorem tmod4 (n : Int) : -3 ≤ Int.tmod n 4 ∧ Int.tmod n 4 ≤ 3 := by
  rcases Int.le_total 0 n with h | h
  · have := Int.tmod_nonneg 4 h
    have := Int.tmod_lt_of_pos n (b := 4) (by decide)
    omega
  · have e : Int.tmod n 4 = - Int.tmod (-n) 4 := by rw [Int.neg_tmod]; omega
    have := Int.tmod_nonneg 4 (show 0 ≤ -n by omega)
    have := Int.tmod_lt_of_pos (-n) (b := 4) (by decide)
    omega
theorem Try.info3_ : (Try.prog.info? 3).map (fun i => (i.zero, i.size, i.bytes)) = some (some (.int .i64 0), 1, 8) := by kernel_rfl
attribute [local go_sem] max2_int min2_int

set_option maxRecDepth 100000 in
set_option maxHeartbeats 2000000 in
theorem bound_at (a0 a1 : Int) (b off : Nat) (len cap : Nat) (xs : List Act) (w0 : (Lit.int .u8 a0).wf = true) (w1 : (Lit.int .u8 a1).wf = true) (hl : len ≤ cap) (hc : cap ≤ maxLen) (w : World)
    (hx : b < w.heap.size ∧ ∀ i, i < len → w.cell? ⟨b, off + i * 3, none⟩ = some (.bool (xs[i]?.getD default).take) ∧ w.cell? ⟨b, off + i * 3 + 1, none⟩ = some (.bool (xs[i]?.getD default).raw) ∧ w.cell? ⟨b, off + i * 3 + 2, none⟩ = some (.int .i64 (xs[i]?.getD default).n) ∧ -9223372036854775808 ≤ (xs[i]?.getD default).n ∧ (xs[i]?.getD default).n ≤ 9223372036854775807) :
    Calls Try.prog 4 #[.int .u8 a0, .int .u8 a1, .slice (some ⟨b, off, none⟩) len cap] w fun e w' => e = .returned (.bool true) ∧ Below w.heap.size w w' := by
  unfold maxLen at hc
  have HX := Aside0.mk hx
  clear hx
  obtain ⟨N, hN⟩ : ∃ N : Nat, (if 60 < (len : Int) then 60 else (len : Int)) = (N : Int) := ⟨if 60 < len then 60 else len, by split <;> split <;> omega⟩
  have hNl : N ≤ len := by split at hN <;> omega
  have hN60 : N ≤ 60 := by split at hN <;> omega
  have b0 : 0 ≤ a0 ∧ a0 ≤ 255 := by simpa [Lit.wf, IntKind.min, IntKind.max, IntKind.signed, IntKind.bits] using w0
  have b1 : 0 ≤ a1 ∧ a1 ≤ 255 := by simpa [Lit.wf, IntKind.min, IntKind.max, IntKind.signed, IntKind.bits] using w1
  obtain ⟨b00, b01⟩ := b0
  obtain ⟨b10, b11⟩ := b1
  have HR := Aside0.mk (show nR (a0 % 5) = a0 % 5 from by unfold nR mn mx; (repeat' split) <;> omega)
  have HBU := Aside0.mk (show nB (a1 % 9 + 1) = a1 % 9 + 1 from by unfold nB mn mx; (repeat' split) <;> omega)
  have ok0 := new_ok (a0 % 5) (a1 % 9 + 1)
  rw [HR.out, HBU.out] at ok0
  have OK0 := Aside0.mk ok0
  obtain ⟨i0, hi, hz0, hz1, hz2⟩ := info_parts Try.info3_
  have HI := Aside0.mk (And.intro hi (And.intro hz0 (And.intro hz1 hz2)))
  clear ok0 w0 w1 hi hz0 hz1 hz2
  go_enter Try.func4, Try.ntmps4
  go_wp2_with fail
  refine (awake_calls _).mono ?_
  rintro e w1 ⟨rfl, B1⟩
  replace B1 := Aside0.mk B1
  go_wp2_with fail
  refine (new_v _ _ _ _ HR.out HBU.out B1.out).mono ?_
  rintro e w2 ⟨g, rfl, I2, B2, _⟩
  clear B1
  go_wp2_with fail
  go_loopw [8, 9, 32] (fun v vn i wr => ∃ (k : Nat) (ts : List Int) (now l : Int), k ≤ N ∧ i = .int .i64 k ∧ vn = .int .i64 now ∧ 0 ≤ now ∧ now ≤ 3 * k ∧ ts.length ≤ k ∧ Aside0 (Okb (a0 % 5) (a1 % 9 + 1) l now) ∧ Aside0 (IsS39 w wr g (a0 % 5) (a1 % 9 + 1) l now) ∧ Aside0 (Below w.heap.size w wr) ∧ Aside0 (wr.ownsRow w.heap.size 3 1 v ts.length (nums .i64 ts)) ∧ Aside0 (Inv (a0 % 5) (a1 % 9 + 1) l now ts)) (fun _ _ i _ => N - (intOf i).toNat)
  case atStart => exact ⟨0, [], 0, _, by omega, rfl, rfl, by omega, by omega, by simp, OK0, I2, B2, Aside0.mk (own_nil _ _ _ _), Aside0.mk (Inv.nil _ _ _ _)⟩
  case round =>
    obtain ⟨k, ts, now, l, hk, rfl, rfl, hn0, hn1, htl, OK, I, B, O, V⟩ := hrel
    clear I2 B2 OK0
    by_cases hlt : k < N
    · obtain ⟨c1, c2, c3, c4, c5⟩ := HX.out.2 k (by omega)
      have hb : b < w.heap.size := HX.out.1
      have d1 := (B.out.cell (p := ⟨b, off + k * 3, none⟩) hb).trans c1
      have d2 := (B.out.cell (p := ⟨b, off + k * 3 + 1, none⟩) hb).trans c2
      have d3 := (B.out.cell (p := ⟨b, off + k * 3 + 2, none⟩) hb).trans c3
      generalize (xs[k]?.getD default) = c at *
      obtain ⟨ct, cr, n⟩ := c
      simp only at d1 d2 d3 c4 c5
      clear c1 c2 c3 hb
      have hm := tmod4 n
      obtain ⟨z, hz⟩ : ∃ z, Int.tmod n 4 = z := ⟨_, rfl⟩
      rw [hz] at hm
      have hm1 := hm.1
      have hm2 := hm.2
      clear hm
      go_wp2_with fail
      obtain ⟨t, ht⟩ : ∃ t, now + z % 4 = t := ⟨_, rfl⟩
      have t0 : now ≤ t := by omega
      have t1 : t ≤ 3 * (k + 1) := by omega
      rw [ht]
      have I1 := Aside0.mk (I.out.alloc (.cells #[.bool ct, .bool cr, .int .i64 n] 27))
      have B1 := Aside0.mk (below_alloc B.out (.cells #[.bool ct, .bool cr, .int .i64 n] 27))
      have O1 := Aside0.mk (O.out.alloc (.cells #[.bool ct, .bool cr, .int .i64 n] 27))
      have hT : tAt now t = t := tAt_in t0 (by omega)
      obtain ⟨q, hq⟩ : ∃ q, lAt (a0 % 5) (a1 % 9 + 1) l now t = q := ⟨_, rfl⟩
      have ok2 := OK.out.left t
      rw [hq, hT] at ok2
      have q0 := ok2.l0
      have q1 := ok2.l1
      have hq2 : q ≤ l + a0 % 5 * (t - now) := by
        rw [← hq]; unfold lAt mn; rw [hT]; split <;> omega
      have V1 := Aside0.mk (V.out.wait t0 hq2)
      have T := Aside0.mk (show tookAt (a0 % 5) (a1 % 9 + 1) l now t = !(q == 0) from by unfold tookAt; rw [hq])
      have R := Aside0.mk (show restAt (a0 % 5) (a1 % 9 + 1) l now t = if q = 0 then 0 else q - 1 from by unfold restAt; rw [hq])
      have HT := Aside0.mk hT
      have HTT := Aside0.mk ht
      have ok3 := OK.out.rest t
      rw [R.out, HT.out] at ok3
      clear hq hq2 V I B O ht hz d1 d2 d3 hT
      by_cases hq0 : q = 0
      · have T2 := Aside0.mk (show tookAt (a0 % 5) (a1 % 9 + 1) l now t = false from by rw [T.out]; simp [hq0])
        have R2 := Aside0.mk (show restAt (a0 % 5) (a1 % 9 + 1) l now t = 0 from by rw [R.out, if_pos hq0])
        rw [if_pos hq0] at ok3
        have V2 : Aside0 (Inv (a0 % 5) (a1 % 9 + 1) 0 t ts) := Aside0.mk (by rw [← hq0]; exact V1.out)
        have OK3 := Aside0.mk ok3
        clear T R ok3 ok2 hq0 V1
        refine (take_v OK.out t false 0 t T2.out R2.out HT.out B1.out I1.out).mono ?_
        rintro e w4 ⟨rfl, I4, B4, K4⟩
        have O4 := Aside0.mk (own_move O1.out (fun j hj => K4.out.2 j (O1.out.lt j hj).2 (fun h => own_ne O1.out I1.out.1 (by decide) (by rw [hj, h]))))
        clear I1 B1 O1 K4
        go_wp2_with fail
        go_roundw
        case rel => exact ⟨k + 1, ts, t, 0, by omega, by go_num, rfl, by omega, by omega, by omega, OK3, I4, B4, O4, V2⟩
        case measure => simp [intOf]; omega
      · have T2 := Aside0.mk (show tookAt (a0 % 5) (a1 % 9 + 1) l now t = true from by rw [T.out]; simp [hq0])
        have R2 := Aside0.mk (show restAt (a0 % 5) (a1 % 9 + 1) l now t = q - 1 from by rw [R.out, if_neg hq0])
        rw [if_neg hq0] at ok3
        have V2 := Aside0.mk (V1.out.take (by omega) q1 (by omega))
        have OK3 := Aside0.mk ok3
        clear T R ok3 ok2 hq0 V1
        refine (take_v OK.out t true (q - 1) t T2.out R2.out HT.out B1.out I1.out).mono ?_
        rintro e w4 ⟨rfl, I4, B4, K4⟩
        have O4 := Aside0.mk (own_move O1.out (fun j hj => K4.out.2 j (O1.out.lt j hj).2 (fun h => own_ne O1.out I1.out.1 (by decide) (by rw [hj, h]))))
        clear I1 B1 O1 K4
        go_wp2_with (at_builtin; refine wpList_append_own _ rfl _ _ 31 rfl w.heap.size 3 i0 (.int .i64 0) 1 8 Try.underlying31 HI.out.1 HI.out.2.1 HI.out.2.2.1 HI.out.2.2.2 rfl (by decide) _ _ _ rfl (O4.out.alloc _) ⟨w4.heap.size, 0, none⟩ 1 1 [.int .i64 t] rfl rfl ?c1 ?c2 ?c3 ?c4 ?c5 ?_)
        case c1 => exact cell_one_new _ _ _
        case c2 => simp [Value.oneCell']
        case c3 => unfold maxLen; omega
        case c4 => omega
        case c5 => have := B4.out.size; simp; omega
        intro v5 w5 hown hgrow _
        have I5 := Aside0.mk ((I4.out.alloc (.cells #[.int .i64 t] 3)).grown hgrow (own_ne (O4.out.alloc (.cells #[.int .i64 t] 3)) (I4.out.alloc (.cells #[.int .i64 t] 3)).1 (by decide)))
        have B5 := Aside0.mk (pw_below_grown (below_alloc B4.out (.cells #[.int .i64 t] 3)) u8.ownBlock (by have := B4.out.size; simp; omega) hgrow (fun j hj => (O4.out.lt j hj).1))
        have O5 : Aside0 (w5.ownsRow w.heap.size 3 1 v5 (ts ++ [t]).length (nums .i64 (ts ++ [t]))) := Aside0.mk (by simpa [nums] using hown)
        clear hown hgrow
        go_wp2_with fail
        go_roundw
        case rel => exact ⟨k + 1, ts ++ [t], t, q - 1, by omega, by go_num, rfl, by omega, by omega, by simp; omega, OK3, I5, B5, O5, V2⟩
        case measure => simp [intOf]; omega
    · have hc5 : ∀ i j : Nat, i < ts.length → j ≤ i → -720 ≤ a0 % 5 * (ts.getD i 0 - ts.getD j 0) ∧ a0 % 5 * (ts.getD i 0 - ts.getD j 0) ≤ 720 := by
        intro i j hi hj
        have h1 := V.out.low i hi
        have h2 := V.out.low j (by omega)
        have hu1 : ts.getD i 0 - ts.getD j 0 ≤ 180 := by omega
        have hu2 : -180 ≤ ts.getD i 0 - ts.getD j 0 := by omega
        generalize ts.getD i 0 - ts.getD j 0 = u at *
        have : a0 % 5 = 0 ∨ a0 % 5 = 1 ∨ a0 % 5 = 2 ∨ a0 % 5 = 3 ∨ a0 % 5 = 4 := by omega
        rcases this with h | h | h | h | h <;> rw [h] <;> omega
      have C5 := Aside0.mk hc5
      clear hc5
      rcases O.out.2 with ⟨rfl, hz⟩ | ⟨gr, cr, cur, rfl, hgr, hrow, hlc, hcm, _, _⟩
      · go_wp2_with fail
        go_loopw [53] (fun vi wq => vi = .int .i64 0 ∧ Aside0 (Below w.heap.size w wq)) (fun _ _ => 0)
        case atStart => exact ⟨rfl, B⟩
        case round =>
          obtain ⟨rfl, B2⟩ := hrel
          go_wp2_with fail
          go_ret
          exact ⟨rfl, B2.out⟩
      · unfold maxLen at hcm
        have HROW := Aside0.mk hrow
        clear hrow
        go_wp2_with fail
        go_loopw [53] (fun vi wq => ∃ i : Nat, i ≤ ts.length ∧ vi = .int .i64 i ∧ Aside0 (Below w.heap.size w wq) ∧ Aside0 (wq.ownsRow w.heap.size 3 1 (.slice (some ⟨gr, 0, none⟩) ts.length cr) ts.length (nums .i64 ts))) (fun vi _ => ts.length - (intOf vi).toNat)
        case atStart => exact ⟨0, by omega, rfl, B, O⟩
        case round =>
          obtain ⟨i, hi, rfl, B2, O2⟩ := hrel
          by_cases hil : i < ts.length
          · go_wp2_with fail
            go_loopw [61] (fun vj wq => ∃ j : Nat, j ≤ i + 1 ∧ vj = .int .i64 j ∧ Aside0 (Below w.heap.size w wq) ∧ Aside0 (wq.ownsRow w.heap.size 3 1 (.slice (some ⟨gr, 0, none⟩) ts.length cr) ts.length (nums .i64 ts))) (fun vj _ => i + 1 - (intOf vj).toNat)
            case atStart => exact ⟨0, by omega, rfl, B2, O2⟩
            case round =>
              obtain ⟨j, hj, rfl, B3, O3⟩ := hrel
              by_cases hjl : j < i + 1
              · have hall := V.out.all i j (by omega) hil
                have hm5 := C5.out i j hil (by omega)
                have hm6 := hm5.1
                have hm7 := hm5.2
                have hi1 := (V.out.low i hil).1
                have hi2 := (V.out.low i hil).2
                have hj1 := (V.out.low j (by omega)).1
                have hj2 := (V.out.low j (by omega)).2
                have ci := (own_at O3.out i (by omega) (by omega)).1
                have cj := (own_at O3.out j (by omega) (by omega)).1
                simp only [Int.toNat_natCast, rd] at ci cj
                clear hm5
                generalize ts.getD i 0 = ti at *
                generalize ts.getD j 0 = tj at *
                go_wp2_with fail
                go_region
                go_wp2_with fail
                go_roundw
                case rel => exact ⟨j + 1, by omega, by go_num, Aside0.mk (below_drew B3.out), Aside0.mk (pw_own_drewN O3.out 1)⟩
                case measure => simp [intOf]; omega
              · obtain rfl : j = i + 1 := by omega
                go_wp2_with fail
                go_roundw
                case rel => exact ⟨i + 1, by omega, by go_num, B3, O3⟩
                case measure => simp [intOf]; omega
          · go_wp2_with fail
            go_ret
            exact ⟨rfl, B2.out⟩
set_option maxRecDepth 100000 in
set_option maxHeartbeats 2000000 in
theorem bound_nil (a0 a1 : Int) (w0 : (Lit.int .u8 a0).wf = true) (w1 : (Lit.int .u8 a1).wf = true) (w : World) :
    Calls Try.prog 4 #[.int .u8 a0, .int .u8 a1, .slice none 0 0] w fun e w' => e = .returned (.bool true) ∧ Below w.heap.size w w' := by
  have b0 : 0 ≤ a0 ∧ a0 ≤ 255 := by simpa [Lit.wf, IntKind.min, IntKind.max, IntKind.signed, IntKind.bits] using w0
  have b1 : 0 ≤ a1 ∧ a1 ≤ 255 := by simpa [Lit.wf, IntKind.min, IntKind.max, IntKind.signed, IntKind.bits] using w1
  obtain ⟨b00, b01⟩ := b0
  obtain ⟨b10, b11⟩ := b1
  have HR := Aside0.mk (show nR (a0 % 5) = a0 % 5 from by unfold nR mn mx; (repeat' split) <;> omega)
  have HBU := Aside0.mk (show nB (a1 % 9 + 1) = a1 % 9 + 1 from by unfold nB mn mx; (repeat' split) <;> omega)
  have ok0 := new_ok (a0 % 5) (a1 % 9 + 1)
  rw [HR.out, HBU.out] at ok0
  have OK0 := Aside0.mk ok0
  clear ok0 w0 w1
  go_enter Try.func4, Try.ntmps4
  go_wp2_with fail
  refine (awake_calls _).mono ?_
  rintro e w1 ⟨rfl, B1⟩
  replace B1 := Aside0.mk B1
  go_wp2_with fail
  refine (new_v _ _ _ _ HR.out HBU.out B1.out).mono ?_
  rintro e w2 ⟨g, rfl, I2, B2, _⟩
  clear B1
  go_wp2_with fail
  go_loopw [8, 9, 32] (fun v vn i wr => i = .int .i64 0 ∧ v = .slice none 0 0 ∧ Aside0 (Below w.heap.size w wr)) (fun _ _ _ _ => 0)
  case atStart => exact ⟨rfl, rfl, B2⟩
  case round =>
    obtain ⟨rfl, rfl, B⟩ := hrel
    go_wp2_with fail
    go_loopw [53] (fun vi wq => vi = .int .i64 0 ∧ Aside0 (Below w.heap.size w wq)) (fun _ _ => 0)
    case atStart => exact ⟨rfl, B⟩
    case round =>
      obtain ⟨rfl, B2⟩ := hrel
      go_wp2_with fail
      go_ret
      exact ⟨rfl, B2.out⟩
set_option maxRecDepth 100000 in
set_option maxHeartbeats 2000000 in
theorem bound_none (a0 a1 : Int) (x : Addr) (cap : Nat) (w0 : (Lit.int .u8 a0).wf = true) (w1 : (Lit.int .u8 a1).wf = true) (w : World) :
    Calls Try.prog 4 #[.int .u8 a0, .int .u8 a1, .slice (some x) 0 cap] w fun e w' => e = .returned (.bool true) ∧ Below w.heap.size w w' := by
  have b0 : 0 ≤ a0 ∧ a0 ≤ 255 := by simpa [Lit.wf, IntKind.min, IntKind.max, IntKind.signed, IntKind.bits] using w0
  have b1 : 0 ≤ a1 ∧ a1 ≤ 255 := by simpa [Lit.wf, IntKind.min, IntKind.max, IntKind.signed, IntKind.bits] using w1
  obtain ⟨b00, b01⟩ := b0
  obtain ⟨b10, b11⟩ := b1
  have HR := Aside0.mk (show nR (a0 % 5) = a0 % 5 from by unfold nR mn mx; (repeat' split) <;> omega)
  have HBU := Aside0.mk (show nB (a1 % 9 + 1) = a1 % 9 + 1 from by unfold nB mn mx; (repeat' split) <;> omega)
  have ok0 := new_ok (a0 % 5) (a1 % 9 + 1)
  rw [HR.out, HBU.out] at ok0
  have OK0 := Aside0.mk ok0
  clear ok0 w0 w1
  go_enter Try.func4, Try.ntmps4
  go_wp2_with fail
  refine (awake_calls _).mono ?_
  rintro e w1 ⟨rfl, B1⟩
  replace B1 := Aside0.mk B1
  go_wp2_with fail
  refine (new_v _ _ _ _ HR.out HBU.out B1.out).mono ?_
  rintro e w2 ⟨g, rfl, I2, B2, _⟩
  clear B1
  go_wp2_with fail
  go_loopw [8, 9, 32] (fun v vn i wr => i = .int .i64 0 ∧ v = .slice none 0 0 ∧ Aside0 (Below w.heap.size w wr)) (fun _ _ _ _ => 0)
  case atStart => exact ⟨rfl, rfl, B2⟩
  case round =>
    obtain ⟨rfl, rfl, B⟩ := hrel
    go_wp2_with fail
    go_loopw [53] (fun vi wq => vi = .int .i64 0 ∧ Aside0 (Below w.heap.size w wq)) (fun _ _ => 0)
    case atStart => exact ⟨rfl, B⟩
    case round =>
      obtain ⟨rfl, B2⟩ := hrel
      go_wp2_with fail
      go_ret
      exact ⟨rfl, B2.out⟩
theorem bound_walk (a0 a1 : Int) (A : Option Addr) (len cap : Nat) (xs : List Act) (w0 : (Lit.int .u8 a0).wf = true) (w1 : (Lit.int .u8 a1).wf = true) (hl : len ≤ cap) (hc : cap ≤ maxLen) (w : World) (hx : ActsAt w A len cap xs) (hA : A = none → cap = 0) :
    Calls Try.prog 4 #[.int .u8 a0, .int .u8 a1, .slice A len cap] w fun e w' => e = .returned (.bool true) ∧ Below w.heap.size w w' := by
  rcases hx with ⟨rfl, rfl, rfl⟩ | rfl | ⟨b, off, rfl, hx⟩
  · exact bound_nil a0 a1 w0 w1 w
  · cases A with
    | none => obtain rfl := hA rfl; exact bound_nil a0 a1 w0 w1 w
    | some x => exact bound_none a0 a1 x cap w0 w1 w
  · exact bound_at a0 a1 b off len cap xs w0 w1 hl hc w hx
end Go.Proofs.Ytgmeopkkdlajnaa
