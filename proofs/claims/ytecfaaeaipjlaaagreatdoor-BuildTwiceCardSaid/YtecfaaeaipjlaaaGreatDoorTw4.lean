/- roundelaylaw21.BuildTwice returns true, whatever the bytes and the text: its walk. -/
import Derived.Test.YtecfaaeaipjlaaaGreatDoorTw3
import Derived.Test.YtecfaaeaipjlaaaGreatDoorBang
import Derived.Test.YtecfaaeaipjlaaaGreatDoorFaultCode
namespace Go.Proofs.YtecfaaeaipjlaaaGreatDoor
open Go.RowKit
attribute [local go_sem] max2_int min2_int

abbrev zB : Obj := .cells #[.string ⟨#[]⟩, .string ⟨#[]⟩, .bool false, .int .i64 0] 33 (0, 0)
/-- What the law holds at its end. -/
structure TwF (W : World) (c h m ga gb gy : Nat) (ln : Int) (nm pt : ByteArray) (fv hv iv jv : Value) : Prop where
  r : Rdy W c h m ln nm pt false (-9223372036854775808)
  a : W.heap[ga]? = some (.cells #[.string nm, .string pt, .bool false, .int .i64 4] 33 (0, 0))
  b : W.heap[gb]? = some (.cells #[.string ⟨#[]⟩, .string ⟨#[]⟩, .bool false, .int .i64 0] 33 (0, 0))
  y : W.heap[gy]? = some (.cells #[.string ⟨#[]⟩, .string ⟨#[]⟩, .bool false, .int .i64 0] 33 (0, 0))
  f : ∃ d, ErrAt W d 11 fv
  h : ∃ d, ErrAt W d 11 hv
  i : ∃ d, ErrAt W d 5 iv
  j : ∃ d, ErrAt W d 6 jv
  e : ErrG W
theorem TwF.below {W W' : World} {c h m ga gb gy : Nat} {ln : Int} {nm pt : ByteArray} {fv hv iv jv : Value} (F : TwF W c h m ga gb gy ln nm pt fv hv iv jv) (hb : Below W.heap.size W W') : TwF W' c h m ga gb gy ln nm pt fv hv iv jv :=
  ⟨F.r.below hb, blk_bel F.a hb, blk_bel F.b hb, blk_bel F.y hb, F.f.elim fun d h => ⟨d, h.below hb⟩, F.h.elim fun d h => ⟨d, h.below hb⟩, F.i.elim fun d h => ⟨d, h.below hb⟩, F.j.elim fun d h => ⟨d, h.below hb⟩, F.e.below hb⟩
theorem code_at {W : World} {c : Int} {v : Value} (h : ∃ d, ErrAt W d c v) (e : ErrG W) : Calls Tryz.prog 13 #[v] W fun e w' => e = .returned (.int .i64 c) ∧ Below W.heap.size W w' := by
  obtain ⟨d, h⟩ := h
  exact code_calls d c v W h e.et
theorem blk_set4 {w : World} {b g : Nat} {nm pt : ByteArray} {un : Bool} {ph : Int} {o : Obj} (hb : w.heap[b]? = some o) (hn : b ≠ g) : ((((w.setCell ⟨g, 0, none⟩ (.string nm)).setCell ⟨g, 1, none⟩ (.string pt)).setCell ⟨g, 2, none⟩ (.bool un)).setCell ⟨g, 3, none⟩ (.int .i64 ph)).heap[b]? = some o :=
  blk_setN (blk_setN (blk_setN (blk_setN hb hn) hn) hn) hn
theorem okPath : oddN ⟨#[111, 107]⟩ = false ∧ (⟨#[111, 107]⟩ : ByteArray).toList ≠ [] ∧ pathOk ⟨#[97, 46, 46, 98]⟩ = false := by decide +kernel
theorem begin_nm (c : Nat) (nm : ByteArray) (W : World) (h : oddN nm = true) : Calls Tryz.prog 21 #[.pointer (some ⟨c, 0, none⟩), .agg #[.string nm, .string ⟨#[97]⟩, .bool false]] W (Refused 5 W) :=
  begin_bad c nm ⟨#[97]⟩ false W 5 1 (by
    have := check_odd nm ⟨#[97]⟩ false (W.alloc (.cells #[.string nm, .string ⟨#[97]⟩, .bool false] 30)) h
    exact this)
theorem begin_dots (c : Nat) (W : World) (G : ParG W) : Calls Tryz.prog 21 #[.pointer (some ⟨c, 0, none⟩), .agg #[.string ⟨#[111, 107]⟩, .string ⟨#[97, 46, 46, 98]⟩, .bool false]] W (Refused 6 W) :=
  begin_bad c ⟨#[111, 107]⟩ ⟨#[97, 46, 46, 98]⟩ false W 6 2 (by
    have := check_path ⟨#[111, 107]⟩ ⟨#[97, 46, 46, 98]⟩ false (W.alloc (.cells #[.string ⟨#[111, 107]⟩, .string ⟨#[97, 46, 46, 98]⟩, .bool false] 30)) (G.below (bel_alloc _ _)) okPath.1 okPath.2.1 (by decide) okPath.2.2 (by decide)
    exact this)
set_option maxRecDepth 100000 in
set_option maxHeartbeats 4000000 in
theorem buildtwice_calls (n q : Int) (bad : ByteArray) (w : World) (hn : 0 ≤ n ∧ n ≤ 255) (hq : 0 ≤ q ∧ q ≤ 255) (hbad : bad.size ≤ 140737488351232) (G : ParG w) (E : ErrG w) :
    Calls Tryz.prog 4 #[.int .u8 n, .int .u8 q, .string bad] w fun e w' => e = .returned (.bool true) ∧ Below w.heap.size w w' := by
  have HA := Ap.of (awake21_calls w G)
  obtain ⟨nm, pt, hs1, hs2⟩ : ∃ nm pt : ByteArray, SpcOK nm pt ∧ ∀ W : World, Calls Tryz.prog 9 #[.int .u8 n, .bool false] W fun e w' => e = .returned (.agg #[.string nm, .string pt, .bool false]) ∧ Below W.heap.size W w' :=
    ⟨_, _, spc_ok (n % 10).toNat (by omega), fun W => spec10_calls n false W hn.1 hn.2⟩
  have HS1 := Ap.of hs1
  have HS2 := Ap.of hs2
  have GG := Ap.of (And.intro G E)
  obtain ⟨Q, hQ⟩ : ∃ Q : Int, q.tmod 5 = Q := ⟨_, rfl⟩
  have HQ := Ap.of hq
  clear hs1 hs2 G E hn hq
  go_enter Tryz.func4, Tryz.ntmps4
  go_wp2_with fail
  refine HA.out.mono ?_
  rintro e w1 ⟨rfl, hb⟩
  have B1 := Ap.of hb
  clear hb HA
  go_wp2_with fail
  refine (cnew_calls w1).mono ?_
  rintro e wc ⟨rfl, rfl⟩
  have HCN := Ap.of (blk_new (w := w1.alloc (.cells #[.slice none 0 0, .int .i64 0] 89)) (k := w1.heap.size + 1) (o := .cells #[.pointer (some ⟨w1.heap.size, 0, none⟩), .slice none 0 0, .slice none 0 0] 64) (by simp))
  have HHN := Ap.of (blk_old (o' := .cells #[.pointer (some ⟨w1.heap.size, 0, none⟩), .slice none 0 0, .slice none 0 0] 64) (blk_new (w := w1) (k := w1.heap.size) (o := .cells #[.slice none 0 0, .int .i64 0] 89) rfl))
  have BC := Ap.of (bel_step B1.out (bel_step (bel_alloc w1 (.cells #[.slice none 0 0, .int .i64 0] 89)) (bel_alloc _ (.cells #[.pointer (some ⟨w1.heap.size, 0, none⟩), .slice none 0 0, .slice none 0 0] 64))))
  go_wp2_with fail
  refine (HS2.out _).mono ?_
  rintro e w2 ⟨rfl, hb⟩
  have hb3 := bel_step hb (bel_alloc w2 (.cells #[.string nm, .string pt, .bool false] 30))
  have C3 := Ap.of (blk_bel HCN.out hb3)
  have H3 := Ap.of (blk_bel HHN.out hb3)
  have B3 := Ap.of (bel_step BC.out hb3)
  have S3 := Ap.of (blk_new (w := w2) (k := w2.heap.size) (o := .cells #[.string nm, .string pt, .bool false] 30) rfl)
  have LC := Ap.of (show w.heap.size ≤ w1.heap.size + 1 by have := B1.out.size; omega)
  have G3 := Ap.of (And.intro (GG.out.1.below B3.out) (GG.out.2.below B3.out))
  clear hb hb3 BC HS2 HCN HHN B1
  go_upto_region 7 with fail
  generalize w1.heap.size + 1 = c at *
  generalize w1.heap.size = h at *
  have s3 := blk_cells S3.out
  have ls3 := blk_lt S3.out
  generalize w2.alloc (.cells #[.string nm, .string pt, .bool false] 30) = W3 at *
  generalize w2.heap.size = gs at *
  have HST := Ap.of (start_calls c h 0 nm pt false W3 C3.out H3.out G3.out.1 HS1.out.1 HS1.out.2.1 HS1.out.2.2.1 HS1.out.2.2.2.1 HS1.out.2.2.2.2)
  unfold StpE at HST
  go_wp2_with fail
  refine HST.out.mono ?_
  rintro e w4 ⟨rfl, ⟨m, t, nn, qq, B, hB, hm, hg⟩, hO⟩
  have hb5 := bel_alloc w4 (.cells #[.string nm, .string pt, .bool false, .int .i64 0] 33)
  have S5 := Ap.of (blk_bel (blk_only S3.out hO (blk_neT S3.out C3.out (by decide))) hb5)
  have A5 := Ap.of (blk_new (w := w4) (k := w4.heap.size) (o := .cells #[.string nm, .string pt, .bool false, .int .i64 0] 33) rfl)
  have D5 := Ap.of (hB.below hb5)
  have B5 := Ap.of (bel_step (bel_only B3.out B3.out.size hO (fun j hj => by rw [hj]; exact LC.out)) hb5)
  have LM := Ap.of (show w.heap.size ≤ m ∧ (∀ g, B.ownBlock = some g → w.heap.size ≤ g) from ⟨Nat.le_trans B3.out.size hm, fun g e => Nat.le_trans B3.out.size (hg g e)⟩)
  have LA := Ap.of (show w.heap.size ≤ w4.heap.size from (bel_only B3.out B3.out.size hO (fun j hj => by rw [hj]; exact LC.out)).size)
  have G5 := Ap.of (And.intro (GG.out.1.below B5.out) (GG.out.2.below B5.out))
  clear hB hm hg hO hb5 HST s3 ls3 S3 C3 H3 G3 B3
  go_upto_region 8 with fail
  have s5 := blk_cells S5.out
  have ls5 := blk_lt S5.out
  generalize w4.alloc (.cells #[.string nm, .string pt, .bool false, .int .i64 0] 33) = W5 at *
  generalize w4.heap.size = ga at *
  have HST := Ap.of (start_bad c nm pt false W5 11 (fun W hW => begin_tw1 c h m t nn qq B 0 nm pt false false _ W (D5.out.below hW) (G5.out.1.below hW) HS1.out.1 HS1.out.2.1 HS1.out.2.2.1 HS1.out.2.2.2.1 HS1.out.2.2.2.2))
  unfold RefS at HST
  go_wp2_with fail
  refine HST.out.mono ?_
  rintro e w6 ⟨df, gf, rfl, he, hb⟩
  have hb7 := bel_step hb (bel_alloc w6 (.cells #[.string ⟨#[]⟩, .string ⟨#[]⟩, .bool false, .int .i64 0] 33))
  have S7 := Ap.of (blk_bel S5.out hb7)
  have A7 := Ap.of (blk_bel A5.out hb7)
  have Z7 := Ap.of (blk_new (w := w6) (k := w6.heap.size) (o := .cells #[.string ⟨#[]⟩, .string ⟨#[]⟩, .bool false, .int .i64 0] 33) rfl)
  have E7 := Ap.of (he.below (bel_alloc w6 (.cells #[.string ⟨#[]⟩, .string ⟨#[]⟩, .bool false, .int .i64 0] 33)))
  have B7 := Ap.of (bel_step B5.out hb7)
  have T7 := Ap.of (show St w.heap.size 0 _ c h m 0 nm pt false from ⟨LC.out, LM.out.1, .inl ⟨rfl, t, nn, qq, B, D5.out.below hb7, LM.out.2⟩⟩)
  have NAB := Ap.of (show ga ≠ w6.heap.size by have := blk_lt (blk_bel A5.out hb); omega)
  clear he hb hb7 HST s5 ls5 S5 A5 D5 B5 G5
  go_upto_region 9 with fail
  generalize w6.alloc (.cells #[.string ⟨#[]⟩, .string ⟨#[]⟩, .bool false, .int .i64 0] 33) = W7 at *
  generalize w6.heap.size = gb at *
  go_loopg [] 4 (fun gk wr => ∃ k : Nat, k ≤ 4 ∧ 4 - k ≤ gk ∧ Ap (St w.heap.size k wr c h m 0 nm pt false) ∧ Ap (wr.heap[ga]? = some (.cells #[.string nm, .string pt, .bool false, .int .i64 (k : Int)] 33 (0, 0))) ∧ Ap (Below w.heap.size w wr) ∧ Ap (wr.heap[gs]? = some (.cells #[.string nm, .string pt, .bool false] 30 (0, 0))) ∧ Ap (wr.heap[gb]? = some (.cells #[.string ⟨#[]⟩, .string ⟨#[]⟩, .bool false, .int .i64 0] 33 (0, 0))) ∧ Ap (ErrAt wr (df + 1) 11 (.iface 129 (.pointer (some ⟨gf, 0, none⟩)))))
  case atStart => exact ⟨0, Nat.zero_le _, Nat.le_refl _, T7, A7, B7, S7, Z7, E7⟩
  case round =>
    obtain ⟨k, hk, hgk, SK, AK, BK, SPK, ZK, EK⟩ := hrel
    have ak := blk_cells AK.out
    have fak := blk_free AK.out
    have lak := blk_lt AK.out
    by_cases hlt : k < 4
    · have t1 : decide ((k : Int) < 4) = true := by simp; omega
      have t3 : decide ((k : Int) + 1 ≤ (k : Int)) = false := by simp; omega
      have HK := Ap.of (bstep_calls (wrap64 Q) hlt SK.out BK.out.size)
      unfold StpE at HK
      have HLT := Ap.of hlt
      have HGK := Ap.of hgk
      clear hlt hgk
      go_wp2_with fail
      refine HK.out.mono ?_
      rintro e w8 ⟨rfl, hS8, hK8⟩
      have b8 := hK8.keep _ _ _ _ AK.out (by decide) (by decide) (by decide)
      have HX := awk_round nm pt false k hS8 hK8 b8 BK.out LA.out
      have HS9 := Ap.of (blk_old (o' := .cells #[.string nm, .string pt, .bool false, .int .i64 ((k : Int) + 1)] 33) (blk_set4 (nm := nm) (pt := pt) (un := false) (ph := (k : Int) + 1) (hK8.keep _ _ _ _ SPK.out (by decide) (by decide) (by decide)) (blk_neT (hK8.keep _ _ _ _ SPK.out (by decide) (by decide) (by decide)) b8 (by decide))))
      have nab := NAB.out
      have HZ9 := Ap.of (blk_old (o' := .cells #[.string nm, .string pt, .bool false, .int .i64 ((k : Int) + 1)] 33) (blk_set4 (nm := nm) (pt := pt) (un := false) (ph := (k : Int) + 1) (hK8.keep _ _ _ _ ZK.out (by decide) (by decide) (by decide)) (Ne.symm nab)))
      have HE9 := Ap.of ((errAt_set4 (na := nm) (pa := pt) (ua := false) (ph := (k : Int) + 1) (errAt_kp hK8 EK.out) b8).below (bel_alloc _ (.cells #[.string nm, .string pt, .bool false, .int .i64 ((k : Int) + 1)] 33)))
      have c8 := blk_cells b8
      have f8 := blk_free b8
      have l8 := blk_lt b8
      clear hS8 hK8 b8 ak fak lak nab
      go_wp2_with fail
      go_roundg (4 - (k + 1))
      case measure => have := HLT.out; have := HGK.out; omega
      case rel => exact ⟨k + 1, HLT.out, Nat.le_refl _, HX.1, HX.2.1, HX.2.2, HS9, HZ9, HE9⟩
    · obtain rfl : k = 4 := by omega
      have RK := Ap.of (show Rdy wr c h m 0 nm pt false (-9223372036854775808) by
        obtain ⟨_, _, hst⟩ := SK.out
        rcases hst with ⟨e, _⟩ | ⟨_, e, _⟩ | ⟨_, hr⟩
        · omega
        · omega
        · exact hr)
      have GK := Ap.of (And.intro (GG.out.1.below BK.out) (GG.out.2.below BK.out))
      have sk := blk_cells SPK.out
      have lsk := blk_lt SPK.out
      have t4 : decide (((4 : Nat) : Int) < 4) = false := by decide
      have HST := Ap.of (start_bad c nm pt false wr 11 (fun W hW => begin_tw2 c h m 0 nm pt false _ W (RK.out.below hW) (GK.out.1.below hW) HS1.out.1 HS1.out.2.1 HS1.out.2.2.1 HS1.out.2.2.2.1 HS1.out.2.2.2.2))
      unfold RefS at HST
      clear hlt hgk hk
      go_wp2_with fail
      refine HST.out.mono ?_
      rintro e w9 ⟨dh, gh, rfl, he, hb⟩
      have hb9 := bel_step hb (bel_alloc w9 (.cells #[.string ⟨#[]⟩, .string ⟨#[]⟩, .bool false, .int .i64 0] 33))
      have X9 := Ap.of (And.intro (RK.out.below hb9) (And.intro (blk_bel AK.out hb9) (And.intro (blk_bel ZK.out hb9) (And.intro (EK.out.below hb9) (he.below (bel_alloc w9 (.cells #[.string ⟨#[]⟩, .string ⟨#[]⟩, .bool false, .int .i64 0] 33)))))))
      have B9 := Ap.of (bel_step BK.out hb9)
      clear he hb hb9 HST sk lsk ak fak lak t4 RK GK SK AK BK SPK ZK EK
      go_upto_region 15 with fail
      generalize w9.alloc (.cells #[.string ⟨#[]⟩, .string ⟨#[]⟩, .bool false, .int .i64 0] 33) = W9 at *
      generalize w9.heap.size = g9 at *
      have HST := Ap.of (start_bad c (bad ++ ⟨#[33]⟩) ⟨#[97]⟩ false W9 5 (fun W _ => begin_nm c _ W (odd_bang bad)))
      unfold RefS at HST
      go_wp2_with fail
      refine HST.out.mono ?_
      rintro e w10 ⟨di, gi, rfl, he, hb⟩
      have hb11 := bel_step hb (bel_alloc w10 (.cells #[.string ⟨#[]⟩, .string ⟨#[]⟩, .bool false, .int .i64 0] 33))
      have Y11 := Ap.of (blk_new (w := w10) (k := w10.heap.size) (o := .cells #[.string ⟨#[]⟩, .string ⟨#[]⟩, .bool false, .int .i64 0] 33) rfl)
      have I11 := Ap.of (he.below (bel_alloc w10 (.cells #[.string ⟨#[]⟩, .string ⟨#[]⟩, .bool false, .int .i64 0] 33)))
      have B11 := Ap.of hb11
      clear he hb hb11 HST
      go_upto_region 16 with fail
      generalize w10.alloc (.cells #[.string ⟨#[]⟩, .string ⟨#[]⟩, .bool false, .int .i64 0] 33) = W11 at *
      generalize w10.heap.size = gy at *
      have HST := Ap.of (start_bad c ⟨#[111, 107]⟩ ⟨#[97, 46, 46, 98]⟩ false W11 6 (fun W hW => begin_dots c W (GG.out.1.below (bel_step (bel_step B9.out B11.out) hW))))
      unfold RefS at HST
      go_wp2_with fail
      refine HST.out.mono ?_
      rintro e w12 ⟨dj, gj, rfl, he, hb⟩
      have hb13 := bel_step hb (bel_alloc w12 (.cells #[.string ⟨#[]⟩, .string ⟨#[]⟩, .bool false, .int .i64 0] 33))
      have hb14 := bel_step B11.out hb13
      have F13 : Ap (TwF _ c h m ga gb gy 0 nm pt (.iface 129 (.pointer (some ⟨gf, 0, none⟩))) (.iface 129 (.pointer (some ⟨gh, 0, none⟩))) (.iface 129 (.pointer (some ⟨gi, 0, none⟩))) (.iface 129 (.pointer (some ⟨gj, 0, none⟩)))) :=
        Ap.of ⟨X9.out.1.below hb14, blk_bel X9.out.2.1 hb14, blk_bel X9.out.2.2.1 hb14, blk_bel Y11.out hb13, ⟨_, X9.out.2.2.2.1.below hb14⟩, ⟨_, X9.out.2.2.2.2.below hb14⟩, ⟨_, I11.out.below hb13⟩, ⟨_, he.below (bel_alloc w12 (.cells #[.string ⟨#[]⟩, .string ⟨#[]⟩, .bool false, .int .i64 0] 33))⟩, GG.out.2.below (bel_step B9.out hb14)⟩
      have B13 := Ap.of (bel_step B9.out hb14)
      clear he hb hb13 hb14 HST X9 Y11 I11 B11 B9
      go_upto_region 17 with fail
      generalize w12.alloc (.cells #[.string ⟨#[]⟩, .string ⟨#[]⟩, .bool false, .int .i64 0] 33) = W13 at *
      generalize w12.heap.size = g13 at *
      have hqq := eqB0
      have hgg := gdBuild
      go_wp2_with fail
      refine (code_at F13.out.f F13.out.e).mono ?_
      rintro e w14 ⟨rfl, hb⟩
      have F14 := Ap.of (F13.out.below hb)
      have B14 := Ap.of (bel_step B13.out hb)
      have d1 := blk_cells F14.out.a
      have d2 := blk_cells F14.out.b
      clear hb
      go_wp2_with fail
      refine (code_at F14.out.h F14.out.e).mono ?_
      rintro e w15 ⟨rfl, hb⟩
      have F15 := Ap.of (F14.out.below hb)
      have B15 := Ap.of (bel_step B14.out hb)
      clear hb d1 d2
      go_wp2_with fail
      refine (code_at F15.out.i F15.out.e).mono ?_
      rintro e w16 ⟨rfl, hb⟩
      have F16 := Ap.of (F15.out.below hb)
      have B16 := Ap.of (bel_step B15.out hb)
      have d3 := blk_cells F16.out.y
      clear hb
      go_wp2_with fail
      refine (code_at F16.out.j F16.out.e).mono ?_
      rintro e w17 ⟨rfl, hb⟩
      have F17 := Ap.of (F16.out.below hb)
      have B17 := Ap.of (bel_step B16.out hb)
      clear hb d3
      go_wp2_with fail
      refine (ready_calls c h m 0 nm pt false _ w17 F17.out.r).mono ?_
      rintro e w18 ⟨⟨A, k18, rfl⟩, hb⟩
      have F18 := Ap.of (F17.out.below hb)
      have B18 := Ap.of (bel_step B17.out hb)
      clear hb
      go_wp2_with fail
      refine (building_calls c h m 0 nm pt false _ w18 F18.out.r).mono ?_
      rintro e w19 ⟨rfl, rfl⟩
      go_wp2_with fail
      go_ret
      exact ⟨rfl, B18.out⟩
end Go.Proofs.YtecfaaeaipjlaaaGreatDoor
