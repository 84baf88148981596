/- Contracts of the bucket's functions. -/
import Derived.Test.YtgmeopkkdlajnaaPRateActsx1
import Derived.BigRegion
import Derived.Lib.Hide
namespace Go.Proofs.Ytgmeopkkdlajnaa
open Go.RowKit Go.Proofs.YtgmeopkkdlajnaaW.PrintWords Go.Proofs.YtgmeopkkdlajnaaW.PrintLast Go.Proofs.YtgmeopkkdlajnaaW.PrintMore
open PRateActs (IsS39 cellS39_0 cellS39_1 cellS39_2 cellS39_3)
attribute [local go_sem] max2_int min2_int

/-- A bucket's time at a call. -/
def tAt (a now : Int) : Int := mn (mx now a) 1099511627776
/-- What is left then. -/
def lAt (r bu l a now : Int) : Int := mn (l + r * (tAt a now - a)) bu
/-- What a bucket's numbers are like. -/
structure Okb (r bu l a : Int) : Prop where
  r0 : 0 ≤ r
  r1 : r ≤ 1000
  b0 : 1 ≤ bu
  b1 : bu ≤ 1000
  l0 : 0 ≤ l
  l1 : l ≤ bu
  a0 : 0 ≤ a
  a1 : a ≤ 1099511627776

theorem tAt_ge {a now : Int} (h1 : a ≤ 1099511627776) : a ≤ tAt a now ∧ tAt a now ≤ 1099511627776 := by
  unfold tAt mn mx; split <;> split <;> omega
theorem Okb.mul {r bu l a : Int} (h : Okb r bu l a) {t : Int} (h1 : a ≤ t) (h2 : t ≤ 1099511627776) : 0 ≤ r * (t - a) ∧ r * (t - a) ≤ 1099511627776000 := by
  have := h.r0; have := h.r1; have := h.a0
  constructor
  · exact Int.mul_nonneg h.r0 (by omega)
  · calc r * (t - a) ≤ 1000 * (t - a) := Int.mul_le_mul_of_nonneg_right h.r1 (by omega)
      _ ≤ _ := by omega
theorem Okb.left {r bu l a : Int} (h : Okb r bu l a) (now : Int) : Okb r bu (lAt r bu l a now) (tAt a now) := by
  have ht := tAt_ge (now := now) h.a1
  have hm := h.mul ht.1 ht.2
  obtain ⟨_, _, _, _, _, _, _, _⟩ := h
  refine ⟨by assumption, by assumption, by assumption, by assumption, ?_, ?_, by omega, by omega⟩ <;> (unfold lAt mn; split <;> omega)
theorem Okb.take {r bu l a : Int} (h : Okb r bu l a) (h0 : l ≠ 0) : Okb r bu (l - 1) a := by
  obtain ⟨_, _, _, _, _, _, _, _⟩ := h
  constructor <;> omega

set_option maxHeartbeats 1000000 in
theorem left_calls {r bu l a : Int} (ok : Okb r bu l a) (now : Int) (g : Nat) (w0 w : World) (hB : Below w0.heap.size w0 w) (hI : IsS39 w0 w g r bu l a) :
    Calls Try.prog 13 #[.pointer (some ⟨g, 0, none⟩), .int .i64 now] w fun e w' => e = .returned (.int .i64 (lAt r bu l a now)) ∧ IsS39 w0 w' g r bu (lAt r bu l a now) (tAt a now) ∧ Below w0.heap.size w0 w' ∧ Kept w w' (· = g) := by
  have hb := hI.1
  have h0 := cellS39_0 hb
  have h1 := cellS39_1 hb
  have h2 := cellS39_2 hb
  have h3 := cellS39_3 hb
  have f2 := blk_frozen hb 2
  have f3 := blk_frozen hb 3
  obtain ⟨t, ht⟩ : ∃ t, tAt a now = t := ⟨_, rfl⟩
  have ht2 := tAt_ge (now := now) ok.a1
  rw [ht] at ht2
  have hm := ok.mul ht2.1 ht2.2
  obtain ⟨q, hq⟩ : ∃ q, lAt r bu l a now = q := ⟨_, rfl⟩
  have ok2 := ok.left now
  rw [ht, hq] at ok2
  have q0 := ok2.l0
  have q1 := ok2.l1
  obtain ⟨m, hmx⟩ : ∃ m, mx now a = m := ⟨_, rfl⟩
  have hmx_ : (if now < a then a else now) = m := hmx
  have ht_ : (if 1099511627776 < m then 1099511627776 else m) = t := by rw [← ht, ← hmx]; rfl
  have hq_ : (if bu < l + r * (t - a) then bu else l + r * (t - a)) = q := by rw [← hq]; unfold lAt; rw [ht]; rfl
  rw [hq, ht]
  have hI' := Aside0.mk hI
  have hB' := Aside0.mk hB
  have x1 := ok.r0
  have x2 := ok.r1
  have x3 := ok.b0
  have x4 := ok.b1
  have x5 := ok.l0
  have x6 := ok.l1
  have x7 := ok.a0
  have x8 := ok.a1
  have x9 := ht2.1
  have x10 := ht2.2
  have x11 := hm.1
  have x12 := hm.2
  clear hI hB hb ok ok2 ht hq hmx hm ht2
  go_enter Try.func13, Try.ntmps13
  go_wp2
  go_region
  go_wp2
  go_ret
  refine ⟨rfl, (hI'.out.set_2 q).set_3 t, ?_, ?_⟩
  · exact below_drew1 (below_set (below_set hB'.out hI'.out.ge) hI'.out.ge)
  · exact (((Kept.refl w (· = g)).setCell (p := ⟨g, 2, none⟩) (.inl rfl) _).setCell (p := ⟨g, 3, none⟩) (.inl rfl) _).drew

/-- What is taken. -/
def tookAt (r bu l a now : Int) : Bool := !(lAt r bu l a now == 0)
def restAt (r bu l a now : Int) : Int := if lAt r bu l a now = 0 then 0 else lAt r bu l a now - 1
theorem Okb.rest {r bu l a : Int} (h : Okb r bu l a) (now : Int) : Okb r bu (restAt r bu l a now) (tAt a now) := by
  have h2 := h.left now
  unfold restAt
  split
  · rename_i e; rw [e] at h2; exact h2
  · exact h2.take (by assumption)

set_option maxHeartbeats 1000000 in
theorem take_calls {r bu l a : Int} (ok : Okb r bu l a) (now : Int) (g : Nat) (w0 w : World) (hB : Below w0.heap.size w0 w) (hI : IsS39 w0 w g r bu l a) :
    Calls Try.prog 12 #[.pointer (some ⟨g, 0, none⟩), .int .i64 now] w fun e w' => e = .returned (.bool (tookAt r bu l a now)) ∧ IsS39 w0 w' g r bu (restAt r bu l a now) (tAt a now) ∧ Below w0.heap.size w0 w' ∧ Kept w w' (· = g) := by
  have ok2 := ok.left now
  have hl := left_calls ok now g w0 w hB hI
  unfold tookAt restAt
  generalize lAt r bu l a now = q at *
  generalize tAt a now = t at *
  have q0 := ok2.l0
  have q1 := ok2.l1
  have q2 := ok2.b1
  have HL := Lib.hid hl
  clear hl ok ok2 hB
  have hI' := Aside0.mk hI
  clear hI
  by_cases e0 : q = 0
  · have e1 : (q == 0) = true := by simp [e0]
    rw [e1, if_pos e0]
    have E0 := Lib.hid e0
    clear e0
    go_enter Try.func12, Try.ntmps12
    go_wp2_with (go_at_call 13; refine HL.out.mono ?_; rintro e w1 ⟨rfl, hI1, hB1, hK1⟩; (have HI1 := Aside0.mk hI1); (have HB1 := Aside0.mk hB1); (have HK1 := Aside0.mk hK1); clear hI1 hB1 hK1)
    go_ret
    refine ⟨rfl, ?_, HB1.out, HK1.out⟩
    have := HI1.out
    rw [E0.out] at this
    exact this
  · have e1 : (q == 0) = false := by simp [e0]
    rw [e1, if_neg e0]
    clear e0
    go_enter Try.func12, Try.ntmps12
    go_wp2_with (go_at_call 13; refine HL.out.mono ?_; rintro e w1 ⟨rfl, hI1, hB1, hK1⟩; (have c2 := cellS39_2 hI1.1); (have f2 := blk_frozen hI1.1 2); (have HI1 := Aside0.mk hI1); (have HB1 := Aside0.mk hB1); (have HK1 := Aside0.mk hK1); clear hI1 hB1 hK1)
    go_ret
    exact ⟨rfl, HI1.out.set_2 _, below_set HB1.out HI1.out.ge, HK1.out.setCell (p := ⟨g, 2, none⟩) (.inl rfl) _⟩

end Go.Proofs.Ytgmeopkkdlajnaa
