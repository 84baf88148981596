/- PathPuts' walk. -/
import Derived.Test.YtlomieopppndeaaGreatDoorPutWalk
import Derived.Test.YtlomieopppndeaaGreatDoorPathFinds
namespace Go.Proofs.YtlomieopppndeaaGreatDoor
open Go.RowKit

theorem eight_words : ∀ k : Nat, k < 8 → ∃ q : ByteArray, q.size ≤ 281474976710656 ∧ ((#[.string ⟨#[97]⟩, .string ⟨#[98]⟩, .string ⟨#[99]⟩, .string ⟨#[110]⟩, .string ⟨#[48]⟩, .string ⟨#[49]⟩, .string ⟨#[50]⟩, .string ⟨#[120]⟩] : Array Value))[k]? = some (.string q)
  | 0, _ => ⟨⟨#[97]⟩, by decide, rfl⟩
  | 1, _ => ⟨⟨#[98]⟩, by decide, rfl⟩
  | 2, _ => ⟨⟨#[99]⟩, by decide, rfl⟩
  | 3, _ => ⟨⟨#[110]⟩, by decide, rfl⟩
  | 4, _ => ⟨⟨#[48]⟩, by decide, rfl⟩
  | 5, _ => ⟨⟨#[49]⟩, by decide, rfl⟩
  | 6, _ => ⟨⟨#[50]⟩, by decide, rfl⟩
  | 7, _ => ⟨⟨#[120]⟩, by decide, rfl⟩
  | n + 8, h => by omega
theorem row_one {w : World} {g : Nat} {q : ByteArray} {t : TypeId} (hq : q.size ≤ 281474976710656) (h : w.heap[g]? = some (.cells #[.string q] t (0, 0))) : Row KStr w (fun _ => True) (some ⟨g, 0, none⟩) 1 1 [q] :=
  .inr ⟨g, 0, rfl, rfl, Nat.le_refl _, by decide, trivial, blk_lt h, fun i x hx => by
    cases i with
    | zero =>
      injection hx with hx
      subst hx
      exact ⟨[.string q], ⟨rfl, hq⟩, fun j u hj => by
        cases j with
        | zero => rw [← hj]; exact blk_cells h 0
        | succ j => simp at hj⟩
    | succ i => simp at hx⟩

set_option maxRecDepth 100000 in
set_option maxHeartbeats 2000000 in
theorem puts_calls (A0 : Option Addr) (n0 c0 : Nat) (A1 : Option Addr) (n1 c1 : Nat) (A2 : Option Addr) (n2 c2 : Nat) (w : World) (b0 : Bs w (fun k => k < w.heap.size) A0 n0 c0) (b1 : Bs w (fun k => k < w.heap.size) A1 n1 c1) (b2 : Bs w (fun k => k < w.heap.size) A2 n2 c2) (G : StG w) :
    Calls Tryz.prog 12 #[.slice A0 n0 c0, .slice A1 n1 c1, .slice A2 n2 c2] w fun e w' => e = .returned (.bool true) ∧ Below w.heap.size w w' := by
  have GG := Ap.of G
  have B0 := Ap.of b0
  have B1 := Ap.of b1
  have B2 := Ap.of b2
  clear G b0 b1 b2
  go_enter Tryz.func12, Tryz.ntmps12
  go_wp2_with fail
  refine (awake_calls w GG.out.path).mono ?_
  rintro e w1 ⟨rfl, hb⟩
  have HB1 := Ap.of hb
  have G1 := Ap.of (GG.out.below hb)
  clear hb
  go_wp2_with fail
  refine (of_calls A0 n0 c0 w1 _ (fun k hk => Nat.lt_of_lt_of_le hk HB1.out.size) G1.out.laid (B0.out.below HB1.out)).mono ?_
  rintro e w2 ⟨x, la, ln, lc, fa, fn, fc, rfl, hx, hg, hb⟩
  have HX := Ap.of hx
  have HG := Ap.of hg
  have HB2 := Ap.of (bel_step HB1.out hb)
  have G2 := Ap.of (G1.out.below hb)
  clear hb hx hg
  go_wp2_with fail
  refine (way_calls A1 n1 c1 w2 _ (fun k hk => Nat.lt_of_lt_of_le hk HB2.out.size) (B1.out.below HB2.out)).mono ?_
  rintro e w3 ⟨A, n, c, l, rfl, hl, hn4, hw, hb⟩
  have HL := Ap.of hl
  have HX3 := Ap.of (Knd.below HX.out hb)
  have HB3 := Ap.of (bel_step HB2.out hb)
  have G3 := Ap.of (G2.out.below hb)
  have HN4 := Ap.of hn4
  clear hb hl hw HX hn4
  go_wp2_with fail
  refine (of_calls A2 n2 c2 w3 _ (fun k hk => Nat.lt_of_lt_of_le hk HB3.out.size) G3.out.laid (B2.out.below HB3.out)).mono ?_
  rintro e w4 ⟨v, la2, ln2, lc2, fa2, fn2, fc2, rfl, hv, hgv, hb⟩
  have HX4 := Ap.of (Knd.below HX3.out hb)
  have HL4 := Ap.of (Row.below HL.out hb)
  have HV := Ap.of hv
  have HGV := Ap.of hgv
  have HB4 := Ap.of (bel_step HB3.out hb)
  have G4 := Ap.of (G3.out.below hb)
  clear hb hv hgv HX3 HL
  have hput := fun W (hW : Below w4.heap.size w4 W) => put_all l.length 3 x v l 4 la ln lc fa fn fc la2 ln2 lc2 fa2 fn2 fc2 A n c (fun _ => True) W rfl (Few.of_good HG.out) (by decide) (G4.out.below hW).path.fin ((HL4.out.mono (fun _ _ => trivial)).below hW)
    (KV_le (by omega) W _ _ _ ((KV 4).mono (fun _ _ => trivial) (Knd.below HX4.out hW))) ((KV 4).mono (fun _ _ => trivial) (Knd.below HV.out hW))
  have HPUT := Ap.of hput
  clear hput
  go_wp2_with fail
  refine (HPUT.out _ (bel_step (bel_alloc _ _) (bel_alloc _ _))).mono ?_
  have bx4 := blk_old (o' := .cells #[.int .i64 v.kind, .int .i64 v.int, .string v.text, .slice la2 ln2 lc2, .slice fa2 fn2 fc2] 28) (blk_new (w := w4) (k := w4.heap.size) (o := .cells #[.int .i64 x.kind, .int .i64 x.int, .string x.text, .slice la ln lc, .slice fa fn fc] 28) rfl)
  have bv4 := blk_new (w := w4.alloc (.cells #[.int .i64 x.kind, .int .i64 x.int, .string x.text, .slice la ln lc, .slice fa fn fc] 28)) (k := w4.heap.size + 1) (o := .cells #[.int .i64 v.kind, .int .i64 v.int, .string v.text, .slice la2 ln2 lc2, .slice fa2 fn2 fc2] 28) (by simp)
  rintro e w5 (⟨y, e1, l5, m5, c5, g5, f5, h5, rfl, hr, hb⟩ | ⟨e1, g, m, rfl, hE, hb⟩)
  · have HE1 := Ap.of e1
    have hfy : Few 5 y := few_put l (N := 4) (Few.of_good HG.out) (Few.mono (by decide) (Few.of_good HGV.out)) e1
    have HFY := Ap.of hfy
    obtain ⟨D, hD⟩ : ∃ D, 3 + l.length + 1 = D + 2 := ⟨l.length + 2, by omega⟩
    rw [hD] at hr
    have HR := Ap.of ((KV (D + 2)).mono (ok' := fun _ => True) (fun _ _ => trivial) hr)
    have HD := Ap.of (show 4 ≤ D + 2 by omega)
    clear hD hfy
    have bx5 := blk_bel bx4 hb
    have bv5 := blk_bel bv4 hb
    have HB45 := Ap.of (bel_step (bel_step (bel_alloc w4 (.cells #[.int .i64 x.kind, .int .i64 x.int, .string x.text, .slice la ln lc, .slice fa fn fc] 28)) (bel_alloc _ (.cells #[.int .i64 v.kind, .int .i64 v.int, .string v.text, .slice la2 ln2 lc2, .slice fa2 fn2 fc2] 28))) hb)
    have dx := blk_cells bx5
    have lx := blk_lt bx5
    have dv := blk_cells bv5
    have lv := blk_lt bv5
    have HBX := Ap.of bx5
    have HBV := Ap.of bv5
    have G5 := Ap.of (G4.out.below HB45.out)
    have hfind := find_calls D y l5 m5 c5 g5 f5 h5 A n c l (fun _ => True) (w5.alloc (.cells #[.int .i64 y.kind, .int .i64 y.int, .string y.text, .slice l5 m5 c5, .slice g5 f5 h5] 28)) ((G5.out.below (bel_alloc _ _)).path.fin) HFY.out ((HL4.out.mono (fun _ _ => trivial)).below (bel_step HB45.out (bel_alloc _ _))) (Knd.below HR.out (bel_alloc _ _))
    rw [find_put l x v y e1] at hfind
    have HFI := Ap.of hfind
    clear hb hr e1 bx4 bv4 bx5 bv5 HPUT hfind
    go_wp2_with fail
    refine HFI.out.mono ?_
    rintro e w6 ⟨z, l6, m6, c6, g6, f6, h6, rfl, hz, hr, hb⟩
    have hzv : v = z := Eq.symm hz
    subst hzv
    clear hz
    have HB46 := Ap.of (bel_step (bel_step HB45.out (bel_alloc _ (.cells #[.int .i64 y.kind, .int .i64 y.int, .string y.text, .slice l5 m5 c5, .slice g5 f5 h5] 28))) hb)
    have HB56 := Ap.of (bel_step (bel_alloc w5 (.cells #[.int .i64 y.kind, .int .i64 y.int, .string y.text, .slice l5 m5 c5, .slice g5 f5 h5] 28)) hb)
    have b10 := blk_bel (blk_new (w := w5) (k := w5.heap.size) (o := .cells #[.int .i64 y.kind, .int .i64 y.int, .string y.text, .slice l5 m5 c5, .slice g5 f5 h5] 28) rfl) hb
    have bx6 := blk_bel (blk_old HBX.out) hb
    have bv6 := blk_bel (blk_old HBV.out) hb
    have hsame := same_calls (D + 2) v v l6 m6 c6 g6 f6 h6 la2 ln2 lc2 fa2 fn2 fc2 (fun _ => True) (w6.alloc (.cells #[.int .i64 v.kind, .int .i64 v.int, .string v.text, .slice l6 m6 c6, .slice g6 f6 h6] 28)) (Knd.below hr (bel_alloc _ _)) (KV_le HD.out _ _ _ _ ((KV 4).mono (fun _ _ => trivial) (Knd.below HV.out (bel_step HB46.out (bel_alloc _ _)))))
    rw [cmpD_self] at hsame
    have HS := Ap.of hsame
    have d10 := blk_cells b10
    have l10 := blk_lt b10
    have dx6 := blk_cells bx6
    have lx6 := blk_lt bx6
    have dv6 := blk_cells bv6
    have lv6 := blk_lt bv6
    have HBX6 := Ap.of bx6
    have HB10 := Ap.of b10
    clear hb hr hsame b10 bx6 bv6 dx lx dv lv HFI d10 l10 dx6 lx6
    go_wp2_with fail
    refine HS.out.mono ?_
    rintro e w7 ⟨rfl, hb⟩
    have b10 := blk_bel (blk_old (o' := .cells #[.int .i64 v.kind, .int .i64 v.int, .string v.text, .slice l6 m6 c6, .slice g6 f6 h6] 28) HB10.out) hb
    have bx7 := blk_bel (blk_old (o' := .cells #[.int .i64 v.kind, .int .i64 v.int, .string v.text, .slice l6 m6 c6, .slice g6 f6 h6] 28) HBX6.out) hb
    have HB47 := Ap.of (bel_step (bel_step HB46.out (bel_alloc _ (.cells #[.int .i64 v.kind, .int .i64 v.int, .string v.text, .slice l6 m6 c6, .slice g6 f6 h6] 28))) hb)
    have HB57 := Ap.of (bel_step (bel_step HB56.out (bel_alloc _ (.cells #[.int .i64 v.kind, .int .i64 v.int, .string v.text, .slice l6 m6 c6, .slice g6 f6 h6] 28))) hb)
    have e10 := blk_cells b10
    have m10 := blk_lt b10
    have ex7 := blk_cells bx7
    have mx7 := blk_lt bx7
    have HBX7 := Ap.of bx7
    have HBY7 := Ap.of b10
    have hln := HL4.out.length
    clear hb b10 bx7 dv6 lv6 HS
    rcases l with _ | ⟨p, r⟩
    · obtain rfl : n = 0 := by simpa using hln.symm
      clear hln
      go_wp2_with fail
      go_ret
      exact ⟨rfl, bel_step HB4.out HB47.out⟩
    · obtain rfl : n = r.length + 1 := by simpa using hln.symm
      have hkd : y.kind = x.kind := (put_kind HE1.out).1
      have hne : ((r.length : Int) + 1 == 0) = false := by simp; omega
      have hpos : decide (0 < (r.length : Int) + 1) = true := by simp
      clear hln
      go_wp2_with fail
      have bw8 := blk_new (w := w7) (k := w7.heap.size) (o := .cells #[.string ⟨#[97]⟩, .string ⟨#[98]⟩, .string ⟨#[99]⟩, .string ⟨#[110]⟩, .string ⟨#[48]⟩, .string ⟨#[49]⟩, .string ⟨#[50]⟩, .string ⟨#[120]⟩] 9) rfl
      have bx8 := blk_old (o' := .cells #[.string ⟨#[97]⟩, .string ⟨#[98]⟩, .string ⟨#[99]⟩, .string ⟨#[110]⟩, .string ⟨#[48]⟩, .string ⟨#[49]⟩, .string ⟨#[50]⟩, .string ⟨#[120]⟩] 9) HBX7.out
      have by8 := blk_old (o' := .cells #[.string ⟨#[97]⟩, .string ⟨#[98]⟩, .string ⟨#[99]⟩, .string ⟨#[110]⟩, .string ⟨#[48]⟩, .string ⟨#[49]⟩, .string ⟨#[50]⟩, .string ⟨#[120]⟩] 9) HBY7.out
      have hb8 := bel_step (bel_step HB4.out HB47.out) (bel_alloc w7 (.cells #[.string ⟨#[97]⟩, .string ⟨#[98]⟩, .string ⟨#[99]⟩, .string ⟨#[110]⟩, .string ⟨#[48]⟩, .string ⟨#[49]⟩, .string ⟨#[50]⟩, .string ⟨#[120]⟩] 9))
      have hb48 := bel_step HB47.out (bel_alloc w7 (.cells #[.string ⟨#[97]⟩, .string ⟨#[98]⟩, .string ⟨#[99]⟩, .string ⟨#[110]⟩, .string ⟨#[48]⟩, .string ⟨#[49]⟩, .string ⟨#[50]⟩, .string ⟨#[120]⟩] 9))
      have hb58 := bel_step HB57.out (bel_alloc w7 (.cells #[.string ⟨#[97]⟩, .string ⟨#[98]⟩, .string ⟨#[99]⟩, .string ⟨#[110]⟩, .string ⟨#[48]⟩, .string ⟨#[49]⟩, .string ⟨#[50]⟩, .string ⟨#[120]⟩] 9))
      generalize (w7.alloc (.cells #[.string ⟨#[97]⟩, .string ⟨#[98]⟩, .string ⟨#[99]⟩, .string ⟨#[110]⟩, .string ⟨#[48]⟩, .string ⟨#[49]⟩, .string ⟨#[50]⟩, .string ⟨#[120]⟩] 9)) = W8 at bw8 bx8 by8 hb8 hb48 hb58 ⊢
      have BW := Ap.of bw8
      have BX := Ap.of bx8
      have BY := Ap.of by8
      have HB8 := Ap.of hb8
      have HB48 := Ap.of hb48
      clear bw8 bx8 by8 hb8 hb48 e10 m10 ex7 mx7 hne hpos
      have HKD := Ap.of hkd
      have HRY := Ap.of (Knd.below HR.out hb58)
      clear hb58
      clear hkd
      go_loopw [81] (fun vi wr => ∃ k : Nat, k ≤ 8 ∧ vi = .int .i64 k ∧ Ap (Below W8.heap.size W8 wr)) (fun vi _ => 8 - (intOf vi).toNat)
      case atStart => exact ⟨0, by decide, rfl, Ap.of (Below.refl _ _)⟩
      case round =>
        obtain ⟨k, hk, rfl, BL⟩ := hrel
        have cw := blk_cells (blk_bel BW.out BL.out)
        have lw := blk_lt (blk_bel BW.out BL.out)
        by_cases hlt : k < 8
        · obtain ⟨q, hqs, hq⟩ := eight_words k hlt
          have cq := (cw k).trans hq
          have hk8 : (k : Int) < 8 := by omega
          have hk0 : (0 : Int) ≤ (k : Int) := by omega
          have dx := blk_cells (blk_bel BX.out BL.out)
          have lx := blk_lt (blk_bel BX.out BL.out)
          obtain ⟨g0, off0, _, _, hA, _, _, hg0, hc0, _, _⟩ := row_tail HL4.out
          have HC0 := Ap.of hc0
          have HG0 := Ap.of hg0
          subst hA
          have hfq : q ≠ p → y.find [q] = x.find [q] := fun h => by simp only [Val.find]; rw [(put_kind HE1.out).2 q h]
          have HFQ := Ap.of hfq
          have HQS := Ap.of hqs
          have hc1 := lfind_calls 2 x la ln lc fa fn fc (some ⟨wr.heap.size, 0, none⟩) 1 1 [q] (fun _ => True) (wr.alloc (.cells #[.string q] 9)) (N := 4) (Few.of_good HG.out) (row_one HQS.out (blk_new (w := wr) (k := wr.heap.size) (o := .cells #[.string q] 9) rfl)) ((KV 4).mono (fun _ _ => trivial) (Knd.below HX4.out (bel_step (bel_step HB48.out BL.out) (bel_alloc wr (.cells #[.string q] 9)))))
          have HC1 := Ap.of hc1
          clear cw hq hlt hc0 hg0 hfq hqs hc1
          go_wp2_with fail
          refine HC1.out.mono ?_
          rintro e w9 ⟨z1, l9, m9, c9, g9, f9, h9, rfl, hz1, hr1, hb9⟩
          have HZ1 := Ap.of hz1
          have HR1 := Ap.of hr1
          have hbl9 := bel_step (bel_step BL.out (bel_alloc wr (.cells #[.string q] 9))) hb9
          have BL9 := Ap.of hbl9
          have dy := blk_cells (blk_bel BY.out hbl9)
          have ly := blk_lt (blk_bel BY.out hbl9)
          have hok2 := bel_step (bel_step (bel_step HB48.out hbl9) (bel_alloc w9 (.cells #[.int .i64 z1.kind, .int .i64 z1.int, .string z1.text, .slice l9 m9 c9, .slice g9 f9 h9] 28))) (bel_alloc _ (.cells #[.string q] 9))
          have HY5 := Ap.of (Knd.below (w := W8) (K := KV (D + 2)) (ok := fun _ => True) (x := y) (cs := [.int .i64 y.kind, .int .i64 y.int, .string y.text, .slice l5 m5 c5, .slice g5 f5 h5]) (HRY.out) (bel_step (bel_step hbl9 (bel_alloc w9 (.cells #[.int .i64 z1.kind, .int .i64 z1.int, .string z1.text, .slice l9 m9 c9, .slice g9 f9 h9] 28))) (bel_alloc _ (.cells #[.string q] 9))))
          have hc2 := lfind_calls D y l5 m5 c5 g5 f5 h5 (some ⟨w9.heap.size + 1, 0, none⟩) 1 1 [q] (fun _ => True) ((w9.alloc (.cells #[.int .i64 z1.kind, .int .i64 z1.int, .string z1.text, .slice l9 m9 c9, .slice g9 f9 h9] 28)).alloc (.cells #[.string q] 9)) (N := 5) HFY.out (row_one HQS.out (blk_new (w := w9.alloc (.cells #[.int .i64 z1.kind, .int .i64 z1.int, .string z1.text, .slice l9 m9 c9, .slice g9 f9 h9] 28)) (k := w9.heap.size + 1) (o := .cells #[.string q] 9) (by simp))) HY5.out
          have HC2 := Ap.of hc2
          clear hz1 hr1 hb9 hbl9 dx lx cq lw hc2 hok2 HY5
          go_wp2_with fail
          refine HC2.out.mono ?_
          rintro e w10 ⟨z2, la9, ma9, ca9, ga9, fa9, ha9, rfl, hz2, hr2, hb10⟩
          have HZ2 := Ap.of hz2
          have HR2 := Ap.of hr2
          have bz1 := blk_bel (blk_old (o' := .cells #[.string q] 9) (blk_new (w := w9) (k := w9.heap.size) (o := .cells #[.int .i64 z1.kind, .int .i64 z1.int, .string z1.text, .slice l9 m9 c9, .slice g9 f9 h9] 28) rfl)) hb10
          have dz1 := blk_cells bz1
          have lz1 := blk_lt bz1
          have hbl10 := bel_step (bel_step (bel_step BL9.out (bel_alloc w9 (.cells #[.int .i64 z1.kind, .int .i64 z1.int, .string z1.text, .slice l9 m9 c9, .slice g9 f9 h9] 28))) (bel_alloc _ (.cells #[.string q] 9))) hb10
          have BL10 := Ap.of hbl10
          have cp10 : w10.cell? ⟨g0, off0, none⟩ = some (.string p) := ((bel_step HB48.out hbl10).cell (p := ⟨g0, off0, none⟩) HG0.out).trans HC0.out
          have lg0 : g0 < w10.heap.size := World.block_lt_of_cell? _ _ cp10
          have HR1' := Ap.of (Knd.below HR1.out (bel_step (bel_step (bel_alloc w9 (.cells #[.int .i64 z1.kind, .int .i64 z1.int, .string z1.text, .slice l9 m9 c9, .slice g9 f9 h9] 28)) (bel_alloc _ (.cells #[.string q] 9))) hb10))
          clear hz2 hr2 hb10 hbl10 bz1 dy ly
          by_cases hqp : q = p
          · have e1 : decide (q = p) = true := by simp [hqp]
            subst hqp
            go_wp2_with fail
            go_roundw
            case rel => exact ⟨k + 1, by omega, by go_num, Ap.of (bel_step BL10.out (bel_alloc _ _))⟩
            case measure => simp [intOf]; omega
          · have e1 : decide (q = p) = false := by simp [hqp]
            have hf := HFQ.out hqp
            rw [hf] at HZ2 ⊢
            clear hf
            have hz : z1 = z2 := HZ1.out.trans HZ2.out.symm
            subst hz
            have hs2 := same_calls (D + 2) z1 z1 l9 m9 c9 g9 f9 h9 la9 ma9 ca9 ga9 fa9 ha9 (fun _ => True) (w10.alloc (.cells #[.int .i64 z1.kind, .int .i64 z1.int, .string z1.text, .slice la9 ma9 ca9, .slice ga9 fa9 ha9] 28)) (KV_le HD.out _ _ _ _ (Knd.below HR1'.out (bel_alloc _ _))) (Knd.below HR2.out (bel_alloc _ _))
            rw [cmpD_self] at hs2
            have HS2 := Ap.of hs2
            clear hs2 HZ1 HZ2 HC1 HC2
            generalize (x.find [q]).isSome = ob at *
            cases ob
            all_goals
              go_wp2_with fail
              all_goals first
                | (go_roundw
                   case rel => exact ⟨k + 1, by omega, by go_num, Ap.of (bel_step BL10.out (bel_alloc _ _))⟩
                   case measure => simp [intOf]; omega)
                | (refine HS2.out.mono ?_
                   rintro e w11 ⟨rfl, hb11⟩
                   have HB11 := Ap.of (bel_step (bel_step BL10.out (bel_alloc _ _)) hb11)
                   clear hb11
                   go_wp2_with fail
                   go_roundw
                   case rel => exact ⟨k + 1, by omega, by go_num, HB11⟩
                   case measure => simp [intOf]; omega)
        · have e8 : decide ((k : Int) < 8) = false := by simp; omega
          go_wp2_with fail
          go_ret
          exact ⟨rfl, bel_step HB8.out BL.out⟩
  · have HE1 := Ap.of e1
    have HEE := Ap.of hE
    have HB5 := Ap.of (bel_step (bel_step (bel_step HB4.out (bel_alloc w4 (.cells #[.int .i64 x.kind, .int .i64 x.int, .string x.text, .slice la ln lc, .slice fa fn fc] 28))) (bel_alloc _ (.cells #[.int .i64 v.kind, .int .i64 v.int, .string v.text, .slice la2 ln2 lc2, .slice fa2 fn2 fc2] 28))) hb)
    have G5 := Ap.of (GG.out.below HB5.out)
    have hl0 : l ≠ [] := by rintro rfl; simp [Val.put] at e1
    have hnl : 0 < n := by
      have := HL4.out.length
      have := List.length_pos_iff.2 hl0
      omega
    clear hb hE e1 bx4 bv4 HPUT hl0
    go_wp2_with fail
    refine (code_calls m 6 _ _ (HEE.out.below (bel_alloc _ _)) (G5.out.below (bel_alloc _ _)).path.et).mono ?_
    rintro e w6 ⟨rfl, hb⟩
    have b10 := blk_bel (blk_new (w := w5) (k := w5.heap.size) (o := .cells #[.int .i64 0, .int .i64 0, .string ⟨#[]⟩, .slice none 0 0, .slice none 0 0] 28) rfl) hb
    have d10 := blk_cells b10
    have l10 := blk_lt b10
    have HB6 := Ap.of (bel_step (bel_step HB5.out (bel_alloc _ _)) hb)
    have hsame := same_calls 4 Val.zero Val.zero none 0 0 none 0 0 none 0 0 none 0 0 (fun _ => True) w6 (KV_zero _ _ _) (KV_zero _ _ _)
    rw [cmpD_self] at hsame
    have HS := Ap.of hsame
    clear hsame b10 hb
    go_wp2_with fail
    refine HS.out.mono ?_
    rintro e w7 ⟨rfl, hb⟩
    go_wp2_with fail
    go_ret
    exact ⟨rfl, bel_step HB6.out hb⟩
end Go.Proofs.YtlomieopppndeaaGreatDoor
