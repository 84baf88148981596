/- Lists of deeds in memory. -/
import Derived.Test.YtgmeopkkdlajnaaC
import Derived.Deep.Slices
import Derived.Deep.Fields
import Derived.ChangeSame
namespace Go.Proofs.Ytgmeopkkdlajnaa
open Go.RowKit Go.Proofs.YtgmeopkkdlajnaaW.PrintWords Go.Proofs.YtgmeopkkdlajnaaW.PrintLast Go.Proofs.YtgmeopkkdlajnaaW.PrintMore
open PRateActs (IsS39 cellS39_0 cellS39_1 cellS39_2 cellS39_3)

structure Act where
  take : Bool
  raw : Bool
  n : Int
instance : Inhabited Act := ⟨⟨false, false, 0⟩⟩

/-- A list of deeds: three cells each. -/
def ActsAt (w : World) (A : Option Addr) (len cap : Nat) (xs : List Act) : Prop :=
  (A = none ∧ len = 0 ∧ cap = 0) ∨ len = 0 ∨ ∃ b off, A = some ⟨b, off, none⟩ ∧ b < w.heap.size ∧ ∀ i, i < len → w.cell? ⟨b, off + i * 3, none⟩ = some (.bool (xs[i]?.getD default).take) ∧ w.cell? ⟨b, off + i * 3 + 1, none⟩ = some (.bool (xs[i]?.getD default).raw) ∧
    w.cell? ⟨b, off + i * 3 + 2, none⟩ = some (.int .i64 (xs[i]?.getD default).n) ∧ -9223372036854775808 ≤ (xs[i]?.getD default).n ∧ (xs[i]?.getD default).n ≤ 9223372036854775807

def nowAt (c : Act) (at_ : Int) : Int := if c.raw = true then c.n else wrap64 (at_ + Int.tmod c.n 7)
theorem when_calls (c : Act) (at_ : Int) (w : World) :
    Calls Try.prog 11 #[.agg #[.bool c.take, .bool c.raw, .int .i64 c.n], .int .i64 at_] w fun e w' => e = .returned (.int .i64 (nowAt c at_)) ∧ Below w.heap.size w w' := by
  refine PRateActs.roundelaylaw15_Act_when.calls c.take c.raw c.n at_ _ w ?_
  unfold PRateActs.roundelaylaw15_Act_when.f nowAt
  split <;> rfl
attribute [local go_sem] max2_int min2_int

set_option maxHeartbeats 1000000 in
theorem acts_walk_at (r0 b0 : Int) (b off : Nat) (len cap : Nat) (xs : List Act) (hl : len ≤ cap) (hc : cap ≤ maxLen) (w : World) (hx : b < w.heap.size ∧ ∀ i, i < len → w.cell? ⟨b, off + i * 3, none⟩ = some (.bool (xs[i]?.getD default).take) ∧ w.cell? ⟨b, off + i * 3 + 1, none⟩ = some (.bool (xs[i]?.getD default).raw) ∧ w.cell? ⟨b, off + i * 3 + 2, none⟩ = some (.int .i64 (xs[i]?.getD default).n) ∧ -9223372036854775808 ≤ (xs[i]?.getD default).n ∧ (xs[i]?.getD default).n ≤ 9223372036854775807) :
    Calls Try.prog 3 #[.int .i64 r0, .int .i64 b0, .slice (some ⟨b, off, none⟩) len cap] w fun e w' => e = .returned (.bool true) ∧ Below w.heap.size w w' := by
  unfold maxLen at hc
  have HX := Aside0.mk hx
  clear hx
  obtain ⟨N, hN⟩ : ∃ N : Nat, (if 100 < (len : Int) then 100 else (len : Int)) = (N : Int) := ⟨if 100 < len then 100 else len, by split <;> split <;> omega⟩
  have hNl : N ≤ len := by split at hN <;> omega
  obtain ⟨m, hm⟩ : ∃ m, mx b0 1 = m := ⟨_, rfl⟩
  have hm_ : (if b0 < 1 then 1 else b0) = m := hm
  obtain ⟨bu, hbu⟩ : ∃ bu, nB b0 = bu := ⟨_, rfl⟩
  have hbu_ : (if 1000 < m then 1000 else m) = bu := by rw [← hbu, ← hm]; rfl
  obtain ⟨m2, hm2⟩ : ∃ m2, mx r0 0 = m2 := ⟨_, rfl⟩
  have hm2_ : (if r0 < 0 then 0 else r0) = m2 := hm2
  obtain ⟨r, hr⟩ : ∃ r, nR r0 = r := ⟨_, rfl⟩
  have hr_ : (if 1000 < m2 then 1000 else m2) = r := by rw [← hr, ← hm2]; rfl
  have ok0 := new_ok r0 b0
  rw [hr, hbu] at ok0
  have HR := Aside0.mk hr
  have HBU := Aside0.mk hbu
  have OK0 := Aside0.mk ok0
  clear ok0 hr hbu hm hm2
  go_enter Try.func3, Try.ntmps3
  go_wp2_with fail
  refine (awake_calls _).mono ?_
  rintro e w1 ⟨rfl, B1⟩
  replace B1 := Aside0.mk B1
  go_wp2_with fail
  refine (new_v _ _ r bu HR.out HBU.out B1.out).mono ?_
  rintro e w2 ⟨g, rfl, I2, B2, _⟩
  clear B1
  go_wp2_with fail
  go_loopw [9, 10, 32] (fun vl va i wr => ∃ (k : Nat) (l a : Int), k ≤ N ∧ i = .int .i64 k ∧ vl = .int .i64 l ∧ va = .int .i64 a ∧ Aside0 (Okb r bu l a) ∧ Aside0 (IsS39 w wr g r bu l a) ∧ Aside0 (Below w.heap.size w wr)) (fun _ _ i _ => N - (intOf i).toNat)
  case atStart => exact ⟨0, bu, 0, by omega, rfl, rfl, rfl, OK0, I2, B2⟩
  case round =>
    obtain ⟨k, l, a, hk, rfl, rfl, rfl, OK, I, B⟩ := hrel
    clear I2 B2 OK0
    by_cases hlt : k < N
    · obtain ⟨c1, c2, c3, _, _⟩ := HX.out.2 k (by omega)
      have hb : b < w.heap.size := HX.out.1
      have d1 := (B.out.cell (p := ⟨b, off + k * 3, none⟩) hb).trans c1
      have d2 := (B.out.cell (p := ⟨b, off + k * 3 + 1, none⟩) hb).trans c2
      have d3 := (B.out.cell (p := ⟨b, off + k * 3 + 2, none⟩) hb).trans c3
      generalize (xs[k]?.getD default) = c at *
      clear c1 c2 c3 hb
      go_wp2_with fail
      refine (when_calls c a _).mono ?_
      rintro e w3 ⟨rfl, hb3⟩
      have bk3 := blk_below (blk_new wr _) hb3
      have B3 := Aside0.mk (below_step (below_alloc B.out _) hb3)
      have I3 := Aside0.mk ((I.out.alloc _).below hb3)
      have e0 : w3.cell? ⟨wr.heap.size, 0, none⟩ = some (.bool c.take) := (blk_cell bk3 0).trans rfl
      clear d1 d2 d3 hb3 bk3 I B
      generalize nowAt c a = now at *
      obtain ⟨m3, hm3⟩ : ∃ m3, mx now a = m3 := ⟨_, rfl⟩
      have hm3_ : (if now < a then a else now) = m3 := hm3
      obtain ⟨t, ht⟩ : ∃ t, tAt a now = t := ⟨_, rfl⟩
      have ht_ : (if 1099511627776 < m3 then 1099511627776 else m3) = t := by rw [← ht, ← hm3]; rfl
      have ht2 := tAt_ge (now := now) OK.out.a1
      rw [ht] at ht2
      have t1 := ht2.1
      have t2 := ht2.2
      have hmul := OK.out.mul t1 t2
      have m4 := hmul.1
      have m5 := hmul.2
      obtain ⟨q, hq⟩ : ∃ q, lAt r bu l a now = q := ⟨_, rfl⟩
      have hq_ : (if l + r * (t - a) < bu then l + r * (t - a) else bu) = q := by
        rw [← hq]; unfold lAt mn; rw [ht]; split <;> split <;> omega
      have a0 := OK.out.a0
      have a1 := OK.out.a1
      have l0 := OK.out.l0
      have l1 := OK.out.l1
      have l2 := OK.out.b1
      have ok2 := OK.out.left now
      have ok3 := OK.out.rest now
      have T := Aside0.mk (show tookAt r bu l a now = !(q == 0) from by unfold tookAt; rw [hq])
      have R := Aside0.mk (show restAt r bu l a now = if q = 0 then 0 else q - 1 from by unfold restAt; rw [hq])
      rw [hq, ht] at ok2
      rw [R.out, ht] at ok3
      have q0 := ok2.l0
      have OK2 := Aside0.mk ok2
      have HQ := Aside0.mk hq
      have HT := Aside0.mk ht
      clear hq ht hm3 ht2 hmul ok2
      cases htk : c.take with
      | true =>
        rw [htk] at e0
        by_cases hq0 : q = 0
        · have e1 : decide (0 < q) = false := by simp; omega
          have e2 : decide (0 ≤ q - 1) = false := by simp; omega
          have T2 := Aside0.mk (show tookAt r bu l a now = false from by rw [T.out]; simp [hq0])
          have R2 := Aside0.mk (show restAt r bu l a now = 0 from by rw [R.out, if_pos hq0])
          rw [if_pos hq0] at ok3
          have OK3 := Aside0.mk ok3
          have q1 : q ≤ 0 := by omega
          clear htk T R ok3 hq0
          go_wp2_with fail
          refine (take_v OK.out now false 0 t T2.out R2.out HT.out B3.out I3.out).mono ?_
          rintro e w4 ⟨rfl, I4, B4, K4⟩
          go_wp2_with fail
          go_roundw
          case rel => exact ⟨k + 1, _, t, by omega, by go_num, rfl, rfl, OK3, I4, B4⟩
          case measure => simp [intOf]; omega
        · have e1 : decide (0 < q) = true := by simp; omega
          have T2 := Aside0.mk (show tookAt r bu l a now = true from by rw [T.out]; simp [hq0])
          have R2 := Aside0.mk (show restAt r bu l a now = q - 1 from by rw [R.out, if_neg hq0])
          rw [if_neg hq0] at ok3
          have OK3 := Aside0.mk ok3
          have q1 : 1 ≤ q := by omega
          have e3 : (if 1 < q then q - 1 else 0) = q - 1 := by split <;> omega
          clear htk T R ok3 hq0
          go_wp2_with fail
          refine (take_v OK.out now true (q - 1) t T2.out R2.out HT.out B3.out I3.out).mono ?_
          rintro e w4 ⟨rfl, I4, B4, K4⟩
          go_wp2_with fail
          go_roundw
          case rel => exact ⟨k + 1, _, t, by omega, by go_num, rfl, rfl, OK3, I4, B4⟩
          case measure => simp [intOf]; omega
      | false =>
        rw [htk] at e0
        clear htk T R ok3
        go_wp2_with fail
        refine (left_v OK.out now q t HQ.out HT.out B3.out I3.out).mono ?_
        rintro e w4 ⟨rfl, I4, B4, K4⟩
        go_wp2_with fail
        go_roundw
        case rel => exact ⟨k + 1, _, t, by omega, by go_num, rfl, rfl, OK2, I4, B4⟩
        case measure => simp [intOf]; omega
    · go_wp2_with fail
      go_ret
      exact ⟨rfl, B.out⟩

set_option maxHeartbeats 1000000 in
theorem acts_walk_nil (r0 b0 : Int)  (w : World)  :
    Calls Try.prog 3 #[.int .i64 r0, .int .i64 b0, .slice none 0 0] w fun e w' => e = .returned (.bool true) ∧ Below w.heap.size w w' := by
  skip
  obtain ⟨m, hm⟩ : ∃ m, mx b0 1 = m := ⟨_, rfl⟩
  have hm_ : (if b0 < 1 then 1 else b0) = m := hm
  obtain ⟨bu, hbu⟩ : ∃ bu, nB b0 = bu := ⟨_, rfl⟩
  have hbu_ : (if 1000 < m then 1000 else m) = bu := by rw [← hbu, ← hm]; rfl
  obtain ⟨m2, hm2⟩ : ∃ m2, mx r0 0 = m2 := ⟨_, rfl⟩
  have hm2_ : (if r0 < 0 then 0 else r0) = m2 := hm2
  obtain ⟨r, hr⟩ : ∃ r, nR r0 = r := ⟨_, rfl⟩
  have hr_ : (if 1000 < m2 then 1000 else m2) = r := by rw [← hr, ← hm2]; rfl
  have ok0 := new_ok r0 b0
  rw [hr, hbu] at ok0
  have HR := Aside0.mk hr
  have HBU := Aside0.mk hbu
  have OK0 := Aside0.mk ok0
  clear ok0 hr hbu hm hm2
  go_enter Try.func3, Try.ntmps3
  go_wp2_with fail
  refine (awake_calls _).mono ?_
  rintro e w1 ⟨rfl, B1⟩
  replace B1 := Aside0.mk B1
  go_wp2_with fail
  refine (new_v _ _ r bu HR.out HBU.out B1.out).mono ?_
  rintro e w2 ⟨g, rfl, I2, B2, _⟩
  clear B1
  go_wp2_with fail
  go_loopw [9, 10, 32] (fun vl va i wr => ∃ (k : Nat) (l a : Int), k ≤ 0 ∧ i = .int .i64 k ∧ vl = .int .i64 l ∧ va = .int .i64 a ∧ Aside0 (Okb r bu l a) ∧ Aside0 (IsS39 w wr g r bu l a) ∧ Aside0 (Below w.heap.size w wr)) (fun _ _ i _ => 0 - (intOf i).toNat)
  case atStart => exact ⟨0, bu, 0, by omega, rfl, rfl, rfl, OK0, I2, B2⟩
  case round =>
    obtain ⟨k, l, a, hk, rfl, rfl, rfl, OK, I, B⟩ := hrel
    clear I2 B2 OK0
    obtain rfl : k = 0 := by omega
    · go_wp2_with fail
      go_ret
      exact ⟨rfl, B.out⟩

set_option maxHeartbeats 1000000 in
theorem acts_walk_none (r0 b0 : Int) (x : Addr) (cap : Nat) (_hc : cap ≤ maxLen) (w : World)  :
    Calls Try.prog 3 #[.int .i64 r0, .int .i64 b0, .slice (some x) 0 cap] w fun e w' => e = .returned (.bool true) ∧ Below w.heap.size w w' := by
  obtain ⟨m, hm⟩ : ∃ m, mx b0 1 = m := ⟨_, rfl⟩
  have hm_ : (if b0 < 1 then 1 else b0) = m := hm
  obtain ⟨bu, hbu⟩ : ∃ bu, nB b0 = bu := ⟨_, rfl⟩
  have hbu_ : (if 1000 < m then 1000 else m) = bu := by rw [← hbu, ← hm]; rfl
  obtain ⟨m2, hm2⟩ : ∃ m2, mx r0 0 = m2 := ⟨_, rfl⟩
  have hm2_ : (if r0 < 0 then 0 else r0) = m2 := hm2
  obtain ⟨r, hr⟩ : ∃ r, nR r0 = r := ⟨_, rfl⟩
  have hr_ : (if 1000 < m2 then 1000 else m2) = r := by rw [← hr, ← hm2]; rfl
  have ok0 := new_ok r0 b0
  rw [hr, hbu] at ok0
  have HR := Aside0.mk hr
  have HBU := Aside0.mk hbu
  have OK0 := Aside0.mk ok0
  clear ok0 hr hbu hm hm2
  go_enter Try.func3, Try.ntmps3
  go_wp2_with fail
  refine (awake_calls _).mono ?_
  rintro e w1 ⟨rfl, B1⟩
  replace B1 := Aside0.mk B1
  go_wp2_with fail
  refine (new_v _ _ r bu HR.out HBU.out B1.out).mono ?_
  rintro e w2 ⟨g, rfl, I2, B2, _⟩
  clear B1
  go_wp2_with fail
  go_loopw [9, 10, 32] (fun vl va i wr => ∃ (k : Nat) (l a : Int), k ≤ 0 ∧ i = .int .i64 k ∧ vl = .int .i64 l ∧ va = .int .i64 a ∧ Aside0 (Okb r bu l a) ∧ Aside0 (IsS39 w wr g r bu l a) ∧ Aside0 (Below w.heap.size w wr)) (fun _ _ i _ => 0 - (intOf i).toNat)
  case atStart => exact ⟨0, bu, 0, by omega, rfl, rfl, rfl, OK0, I2, B2⟩
  case round =>
    obtain ⟨k, l, a, hk, rfl, rfl, rfl, OK, I, B⟩ := hrel
    clear I2 B2 OK0
    obtain rfl : k = 0 := by omega
    · go_wp2_with fail
      go_ret
      exact ⟨rfl, B.out⟩

theorem acts_walk (r0 b0 : Int) (A : Option Addr) (len cap : Nat) (xs : List Act) (hl : len ≤ cap) (hc : cap ≤ maxLen) (w : World) (hx : ActsAt w A len cap xs) (hA : A = none → cap = 0) :
    Calls Try.prog 3 #[.int .i64 r0, .int .i64 b0, .slice A len cap] w fun e w' => e = .returned (.bool true) ∧ Below w.heap.size w w' := by
  rcases hx with ⟨rfl, rfl, rfl⟩ | rfl | ⟨b, off, rfl, hx⟩
  · exact acts_walk_nil r0 b0 w
  · cases A with
    | none => obtain rfl := hA rfl; exact acts_walk_nil r0 b0 w
    | some x => exact acts_walk_none r0 b0 x cap hc w
  · exact acts_walk_at r0 b0 b off len cap xs hl hc w hx
end Go.Proofs.Ytgmeopkkdlajnaa
