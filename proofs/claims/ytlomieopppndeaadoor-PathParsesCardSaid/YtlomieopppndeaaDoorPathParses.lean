/- PathParses' walk. -/
import Derived.Test.YtlomieopppndeaaDoorPathAwake
import Derived.Test.YtlomieopppndeaaDoorMend
import Derived.Test.YtlomieopppndeaaDoorCutLaw
import Derived.Deep.QuietTactic
import Derived.BigQuiet
namespace Go.Proofs.YtlomieopppndeaaDoor
open Go.RowKit

theorem Tryd.infoS : (Tryd.prog.info? 9).map (fun i => (i.zero, i.size, i.bytes)) = some (some (.string ⟨#[]⟩), 1, 16) := by kernel_rfl
theorem partsOf_cut (s : ByteArray) : partsOf s = cutB ⟨#[]⟩ s.data.toList := splitB_cut s

theorem extract_one (t : ByteArray) (i : Nat) (h : i < t.size) : t.extract i (i + 1) = ⟨#[t[i]]⟩ := by
  apply data_inj
  have hl : i < t.data.toList.length := by rw [size_list]; exact h
  rw [ByteArray.data_extract, Array.toList_extract]
  show (t.data.toList.extract i (i + 1)) = _
  rw [List.extract_eq_take_drop, Nat.add_sub_cancel_left]
  rw [List.drop_eq_getElem_cons hl]
  rfl
theorem str_index (t : ByteArray) (i : Nat) (h : i < t.size) (W : World) : (Instr.index 9 (.string t) (.int .i64 (i : Int))).run Tryd.prog W = .ok (.int .u8 (t[i].toNat : Int)) W := by
  simp [go_sem, h, Tryd.underlying9]
theorem str_slice1 (t : ByteArray) (i : Nat) (h : i < t.size) (_hb : t.size ≤ 1000) (W : World) : (Instr.slice 9 (.string t) (some (.int .i64 (i : Int))) (some (.int .i64 ((i : Int) + 1))) none).run Tryd.prog W = .ok (.string ⟨#[t[i]]⟩) W := by
  have e : ((i : Int) + 1).toNat = i + 1 := by omega
  rw [← extract_one t i h]
  simp [Instr.slice, Instr.sliceBounds, go_sem, run_underlying Tryd.underlying9]
  intro hx
  exfalso
  have := hx (by omega)
  omega

set_option maxRecDepth 100000 in
set_option maxHeartbeats 4000000 in
theorem parses_calls (s : ByteArray) (w : World) (hs : s.size ≤ 9223372036854775807) (G : PathG w) : Calls Tryd.prog 7 #[.string s] w fun e w' => e = .returned (.bool true) ∧ Below w.heap.size w w' := by
  obtain ⟨N, hN⟩ : ∃ N : Nat, (min (s.size : Int) 400).toNat = N := ⟨_, rfl⟩
  have hNl : N ≤ s.size := by omega
  have hN4 : N ≤ 400 := by omega
  have GG := Ap.of G
  clear G
  go_enter Tryd.func7, Tryd.ntmps7
  go_wp2_with fail
  refine (awake_calls w GG.out).mono ?_
  rintro e w1 ⟨rfl, hb⟩
  have HB := Ap.of hb
  have G1 := Ap.of (GG.out.below hb)
  clear hb
  go_wp2_with fail
  have hT : (s.extract 0 N).size = N := by rw [ByteArray.size_extract]; omega
  generalize s.extract 0 N = t at *
  go_loopw [3, 4, 5, 6] (fun vw vp vb vi wr => ∃ (i : Nat) (A : Option Addr) (c : Nat) (want : List ByteArray) (p : ByteArray), i ≤ N + 1 ∧ vi = .int .i64 i ∧ vp = .string p ∧ vb = .bool (want.any oddB) ∧ vw = .slice A want.length c ∧ want.length ≤ i ∧ p.size ≤ i ∧
    Ap (Own KStr 9 w1.heap.size wr (fun j => w1.heap.size ≤ j) (.slice A want.length c) want) ∧
    Ap ((i ≤ N ∧ want ++ cutB p (t.data.toList.drop i) = cutB ⟨#[]⟩ t.data.toList) ∨ (i = N + 1 ∧ want = cutB ⟨#[]⟩ t.data.toList)) ∧ Ap (Below w1.heap.size w1 wr)) (fun _ _ _ vi _ => N + 2 - (intOf vi).toNat)
  case atStart => exact ⟨0, none, 0, [], ⟨#[]⟩, by omega, rfl, rfl, rfl, rfl, Nat.le_refl _, Nat.le_refl _, Ap.of (Own.nil _ _ _ _ _), Ap.of (.inl ⟨by omega, rfl⟩), Ap.of (Below.refl _ _)⟩
  case round =>
    obtain ⟨i, A, c, want, p, hi, rfl, rfl, rfl, rfl, hwl, hps, O, HC, BL⟩ := hrel
    by_cases hle : i ≤ N
    · have hcut : want ++ cutB p (t.data.toList.drop i) = cutB ⟨#[]⟩ t.data.toList := by
        rcases HC.out with h | h
        · exact h.2
        · omega
      have HCUT := Ap.of hcut
      clear HC hcut
      by_cases hlt : i < N
      · have hit : i < t.size := by omega
        have hix := str_index t i hit
        have hsl := str_slice1 t i hit (by omega)
        have hdr : t.data.toList.drop i = t[i] :: t.data.toList.drop (i + 1) := by
          rw [List.drop_eq_getElem_cons (by rw [size_list]; exact hit)]; rfl
        have hHD := HCUT.out
        rw [hdr] at hHD
        generalize t[i] = b at *
        by_cases hb : b = 46
        · subst hb
          have hcc : cutB p (46 :: t.data.toList.drop (i + 1)) = p :: cutB ⟨#[]⟩ (t.data.toList.drop (i + 1)) := by rw [cutB, if_pos rfl]
          rw [hcc] at hHD
          have HH := Ap.of hHD
          have hz : (((46 : UInt8).toNat : Nat) : Int) = 46 := by decide
          rw [hz] at hix
          clear hHD hdr hcc HCUT hsl hz
          have hem := isEmpty_size p
          have hodd : (want ++ [p]).any oddB = (want.any oddB || (p.size == 0 || decide (32 < p.size))) := by simp [oddB]
          have HOD := Ap.of hodd
          have h32 : decide ((32 : Int) < (p.size : Int)) = decide (32 < p.size) := decide_eq_decide.2 (by omega)
          have hps2 : p.size ≤ 400 := by omega
          have hii : (i : Int) ≤ (N : Int) := by omega
          have hil : (i : Int) < (N : Int) := by omega
          obtain ⟨i0, hif, hzz⟩ := Option.map_eq_some_iff.1 Tryd.infoS
          simp only [Prod.mk.injEq] at hzz
          have HI := Ap.of (And.intro hif hzz)
          have HWL := Ap.of hwl
          have HPS := Ap.of hps
          clear hodd hif hzz hN hNl
          generalize hbd : want.any oddB = bd at *
          generalize hp0 : (p.size == 0) = e0 at *
          generalize hp3 : decide (32 < p.size) = e3 at *
          cases bd <;> cases e0 <;> cases e3
          all_goals
            go_wp2_with (at_builtin; refine wp_append (K := KStr) (tx := 9) (e := 9) (B := w1.heap.size) (ok := fun j => w1.heap.size ≤ j) (okx := fun _ => False) (xs := want) (x := p) (cs := [.string p]) rfl _ _ 50 i0 _ 16 rfl Tryd.underlying50 HI.out.1 HI.out.2.1 HI.out.2.2.1 HI.out.2.2.2 rfl (Nat.succ_pos 0) rfl rfl ?a1 ?a2 ?a3 ?a4 ?a5 ?a6 ?a7 ?a8 ?_)
            case a1 => exact O.out.below (bel_alloc _ _)
            case a2 => exact blk_new (by simp)
            case a3 => exact And.intro rfl (by omega)
            case a4 => exact fun j hj => hj.elim
            case a5 => intro j hj; have := BL.out.size; simp at hj; omega
            case a6 => have := HWL.out; omega
            case a7 => have := HWL.out; omega
            case a8 => have := BL.out.size; simp; omega
            intro v5 w5 hO5 honly
            obtain ⟨A5, c5, hv5, _, _⟩ := hO5.slice
            have hlen5 : (want ++ [p]).length = want.length + 1 := by simp
            have LT := Ap.of O.out.lt
            have BL5 := Ap.of (bel_only (bel_stepB BL.out BL.out.size (bel_alloc _ _)) (by have := BL.out.size; simp; omega) honly (fun j he => (LT.out j he).1))
            subst hv5
            have O5 := Ap.of hO5
            clear honly hO5
            go_wp2_with fail
            go_roundw
            case rel => exact ⟨i + 1, A5, c5, want ++ [p], ⟨#[]⟩, by omega, by go_num, rfl, by rw [HOD.out]; rfl, rfl, by rw [hlen5]; have := HWL.out; omega, Nat.zero_le _, O5, Ap.of (.inl ⟨by omega, by rw [List.append_assoc]; exact HH.out⟩), BL5⟩
            case measure => simp [intOf]; omega
        · have hz : ¬ ((b.toNat : Int) = 46) := fun e => hb (by have : b.toNat = 46 := by omega
                                                                exact UInt8.toNat_inj.1 this)
          have hz2 : ((b.toNat : Int) == 46) = false := by simpa using hz
          have hcc : cutB p (b :: t.data.toList.drop (i + 1)) = cutB (p ++ ⟨#[b]⟩) (t.data.toList.drop (i + 1)) := by rw [cutB, if_neg hb]
          rw [hcc] at hHD
          have HH := Ap.of hHD
          have hq : (⟨#[b]⟩ : ByteArray).size = 1 := rfl
          clear hHD hdr hcc HCUT hb
          generalize (b.toNat : Int) = z at *
          generalize (⟨#[b]⟩ : ByteArray) = q at *
          have hbd : want.any oddB = want.any oddB := rfl
          generalize hbb : want.any oddB = bd at hbd ⊢
          have HBB := Ap.of hbb
          have hcat : p.size + q.size ≤ 9223372036854775807 := by omega
          have hii : (i : Int) ≤ (N : Int) := by omega
          have hil : (i : Int) < (N : Int) := by omega
          clear hbb hbd hN hNl
          go_wp2_with fail
          go_roundw
          case rel => exact ⟨i + 1, A, c, want, p ++ q, by omega, by go_num, rfl, by rw [HBB.out], rfl, by omega, by rw [ByteArray.size_append, hq]; omega, O, Ap.of (.inl ⟨by omega, HH.out⟩), BL⟩
          case measure => simp [intOf]; omega
      · obtain rfl : i = N := by omega
        have hdr : t.data.toList.drop i = [] := List.drop_eq_nil_of_le (by rw [size_list]; omega)
        have hHD := HCUT.out
        rw [hdr] at hHD
        have HH := Ap.of (show want ++ [p] = cutB ⟨#[]⟩ t.data.toList from hHD)
        clear hHD hdr HCUT
        have hem := isEmpty_size p
        have hodd : (want ++ [p]).any oddB = (want.any oddB || (p.size == 0 || decide (32 < p.size))) := by simp [oddB]
        have HOD := Ap.of hodd
        have h32 : decide ((32 : Int) < (p.size : Int)) = decide (32 < p.size) := decide_eq_decide.2 (by omega)
        have hps2 : p.size ≤ 400 := by omega
        obtain ⟨i0, hif, hzz⟩ := Option.map_eq_some_iff.1 Tryd.infoS
        simp only [Prod.mk.injEq] at hzz
        have HI := Ap.of (And.intro hif hzz)
        have HWL := Ap.of hwl
        have HPS := Ap.of hps
        clear hodd hif hzz hN hNl
        generalize hbd : want.any oddB = bd at *
        generalize hp0 : (p.size == 0) = e0 at *
        generalize hp3 : decide (32 < p.size) = e3 at *
        cases bd <;> cases e0 <;> cases e3
        all_goals
          go_wp2_with (at_builtin; refine wp_append (K := KStr) (tx := 9) (e := 9) (B := w1.heap.size) (ok := fun j => w1.heap.size ≤ j) (okx := fun _ => False) (xs := want) (x := p) (cs := [.string p]) rfl _ _ 50 i0 _ 16 rfl Tryd.underlying50 HI.out.1 HI.out.2.1 HI.out.2.2.1 HI.out.2.2.2 rfl (Nat.succ_pos 0) rfl rfl ?a1 ?a2 ?a3 ?a4 ?a5 ?a6 ?a7 ?a8 ?_)
          case a1 => exact O.out.below (bel_alloc _ _)
          case a2 => exact blk_new (by simp)
          case a3 => exact And.intro rfl (by omega)
          case a4 => exact fun j hj => hj.elim
          case a5 => intro j hj; have := BL.out.size; simp at hj; omega
          case a6 => have := HWL.out; omega
          case a7 => have := HWL.out; omega
          case a8 => have := BL.out.size; simp; omega
          intro v5 w5 hO5 honly
          obtain ⟨A5, c5, hv5, _, _⟩ := hO5.slice
          have hlen5 : (want ++ [p]).length = want.length + 1 := by simp
          have LT := Ap.of O.out.lt
          have BL5 := Ap.of (bel_only (bel_stepB BL.out BL.out.size (bel_alloc _ _)) (by have := BL.out.size; simp; omega) honly (fun j he => (LT.out j he).1))
          subst hv5
          have O5 := Ap.of hO5
          clear honly hO5
          go_wp2_with fail
          go_roundw
          case rel => exact ⟨i + 1, A5, c5, want ++ [p], ⟨#[]⟩, by omega, by go_num, rfl, by rw [HOD.out]; rfl, rfl, by rw [hlen5]; have := HWL.out; omega, Nat.zero_le _, O5, Ap.of (.inr ⟨rfl, HH.out⟩), BL5⟩
          case measure => simp [intOf] <;> omega
    · obtain rfl : i = N + 1 := by omega
      have hw : want = cutB ⟨#[]⟩ t.data.toList := by
        rcases HC.out with h | h
        · omega
        · exact h.2
      rw [← partsOf_cut] at hw
      clear HC
      have hpc := parse_calls' t wr (by omega) (G1.out.below BL.out)
      have HPC := Ap.of hpc
      have hm := fun W => mend_calls t (by omega) W
      have HM := Ap.of hm
      have hml : ((mendB t).toList == t.toList) = Lib.validD t.data.toList := by
        rw [ByteArray.toList_eq, ByteArray.toList_eq, Bool.eq_iff_iff, beq_iff_eq]
        exact mendL_iff t.data.toList
      subst hw
      have hok : pathOk t = (!(partsOf t).any oddB && decide ((partsOf t).length ≤ 8) && Lib.validD t.data.toList) := rfl
      have HOK := Ap.of hok
      clear hpc hm hok
      generalize hbd : (partsOf t).any oddB = bd at *
      generalize hvd : Lib.validD t.data.toList = vd at *
      have HBD := Ap.of hbd
      clear hbd hvd
      go_wp2_with fail
      refine HPC.out.mono ?_
      rintro e w2 (⟨hyes, g, rfl, hg, hst, hb⟩ | ⟨hno, g2, rfl, he, hb⟩)
      · have h3 : bd = false ∧ (partsOf t).length ≤ 8 ∧ vd = true := by
          have := HOK.out
          rw [hyes] at this
          have := this.symm
          simp only [Bool.and_eq_true, Bool.not_eq_true', decide_eq_true_eq] at this
          exact ⟨this.1.1, this.1.2, this.2⟩
        obtain ⟨rfl, h8, rfl⟩ := h3
        obtain ⟨A', c', hv', hrow⟩ := O.out.row
        injection hv' with hv1 _ hv2
        subst hv1 hv2
        generalize partsOf t = l at *
        have t1 : decide ((8 : Int) < (l.length : Int)) = false := by simp; omega
        have HST := Ap.of hst
        have HROW := Ap.of hrow.bound
        have HB2 := Ap.of (bel_stepB (bel_stepB HB.out (by have := HB.out.size; omega) BL.out) (by have := HB.out.size; have := BL.out.size; omega) hb)
        have HBW := Ap.of hb
        clear hst hrow hb hyes hg h8
        go_wp2_with fail
        refine (HM.out _).mono ?_
        rintro e w3 ⟨rfl, hb3⟩
        have HB3 := Ap.of (bel_stepB HB2.out HB2.out.size hb3)
        have HBX := Ap.of hb3
        clear hb3
        go_wp2_with fail
        go_loopw [90] (fun vi wq => ∃ k : Nat, k ≤ l.length ∧ vi = .int .i64 k ∧ Ap (Below w3.heap.size w3 wq)) (fun vi _ => l.length - (intOf vi).toNat)
        case atStart => exact ⟨0, Nat.zero_le _, rfl, Ap.of (Below.refl _ _)⟩
        case round =>
          obtain ⟨k, hk, rfl, B4⟩ := hrel
          by_cases hlt : k < l.length
          · have hbx := bel_step HBX.out B4.out
            obtain ⟨g3, off, s0, rfl, hs0, _, hc0⟩ := str_cells ((HROW.out.below HBW.out).below hbx) hlt
            have hs1 := HST.out.cell hlt
            rw [List.getD_eq_getElem?_getD, hs0] at hs1
            have hc1 := (hbx.cell (World.block_lt_of_cell? w2 _ hs1)).trans hs1
            have hki : (k : Int) < (l.length : Int) := by omega
            have hk0 : (0 : Int) ≤ (k : Int) := by omega
            simp only [Option.getD_some] at hc1
            clear hs0 hs1 hbx
            go_wp2_with fail
            go_quiet (fail)
            go_wp2_with fail
            go_roundw
            case rel => exact ⟨k + 1, by omega, by go_num, Ap.of (below_drewN B4.out _)⟩
            case measure => simp [intOf]; omega
          · obtain rfl : k = l.length := by omega
            go_wp2_with fail
            go_ret
            exact ⟨rfl, bel_stepB HB3.out HB3.out.size B4.out⟩
      · have HE := Ap.of he
        have HB2 := Ap.of (bel_stepB (bel_stepB HB.out (by have := HB.out.size; omega) BL.out) (by have := HB.out.size; have := BL.out.size; omega) hb)
        have G2 := Ap.of ((G1.out.below BL.out).below hb)
        have h3 : bd = true ∨ ¬ (partsOf t).length ≤ 8 ∨ vd = false := by
          have := HOK.out
          rw [hno] at this
          cases bd with
          | true => exact .inl rfl
          | false =>
            cases vd with
            | false => exact .inr (.inr rfl)
            | true => exact .inr (.inl (of_decide_eq_false (by rw [Bool.and_true] at this; exact this.symm)))
        clear he hb hno
        by_cases hbd : bd = true
        · subst hbd
          go_wp2_with fail
          refine (code_calls 1 6 _ w2 HE.out G2.out.et).mono ?_
          rintro e w4 ⟨rfl, hb4⟩
          have HB4 := Ap.of (bel_step HB2.out hb4)
          clear hb4
          go_wp2_with fail
          go_ret
          exact ⟨rfl, HB4.out⟩
        · obtain rfl : bd = false := by simpa using hbd
          clear hbd
          by_cases h8 : (partsOf t).length ≤ 8
          · have t1 : decide ((8 : Int) < ((partsOf t).length : Int)) = false := by simp; omega
            obtain rfl : vd = false := by
              rcases h3 with h | h | h
              · cases h
              · exact (h h8).elim
              · exact h
            clear h3 h8
            generalize (partsOf t).length = ll at *
            go_wp2_with fail
            refine (HM.out _).mono ?_
            rintro e w3 ⟨rfl, hb3⟩
            have HB3 := Ap.of (bel_stepB HB2.out HB2.out.size hb3)
            have G3 := Ap.of (G2.out.below hb3)
            have HE3 := Ap.of (HE.out.below hb3)
            clear hb3
            go_wp2_with fail
            refine (code_calls 1 6 _ w3 HE3.out G3.out.et).mono ?_
            rintro e w4 ⟨rfl, hb4⟩
            have HB4 := Ap.of (bel_step HB3.out hb4)
            clear hb4
            go_wp2_with fail
            go_ret
            exact ⟨rfl, HB4.out⟩
          · have t1 : decide ((8 : Int) < ((partsOf t).length : Int)) = true := by simp; omega
            clear h3 h8
            generalize (partsOf t).length = ll at *
            go_wp2_with fail
            refine (code_calls 1 6 _ w2 HE.out G2.out.et).mono ?_
            rintro e w4 ⟨rfl, hb4⟩
            have HB4 := Ap.of (bel_step HB2.out hb4)
            clear hb4
            go_wp2_with fail
            go_ret
            exact ⟨rfl, HB4.out⟩
end Go.Proofs.YtlomieopppndeaaDoor
