/- FilterNone's walk. -/
import Derived.Test.YtlomieopppndeaaGreatDoorFilAwake
import Derived.Test.YtlomieopppndeaaGreatDoorOf
import Derived.Test.YtlomieopppndeaaGreatDoorCutLaw
namespace Go.Proofs.YtlomieopppndeaaGreatDoor
open Go.RowKit

/-- What FilterNone reads. -/
structure FnG (w : World) : Prop where
  aw : AwG w
  laid : Laid w
theorem FnG.below {w w' : World} (h : FnG w) (hb : Below w.heap.size w w') : FnG w' := ⟨h.aw.below hb, h.laid.below hb⟩

theorem cutB_dot : ∀ (l : List UInt8) (p : ByteArray), ∃ ys, cutB p (l ++ [46]) = ys ++ [⟨#[]⟩]
  | [], p => ⟨[p], by simp [cutB]⟩
  | b :: r, p => by
    rw [List.cons_append]
    unfold cutB
    by_cases h : b = 46
    · obtain ⟨ys, hy⟩ := cutB_dot r ⟨#[]⟩
      exact ⟨p :: ys, by rw [if_pos h, hy]; rfl⟩
    · obtain ⟨ys, hy⟩ := cutB_dot r (p ++ ⟨#[b]⟩)
      exact ⟨ys, by rw [if_neg h, hy]⟩
/-- A text that ends in dots is no path. -/
theorem dots_bad (p : ByteArray) : pathOk (p ++ ⟨#[46, 46]⟩) = false := by
  have h1 : partsOf (p ++ ⟨#[46, 46]⟩) = cutB ⟨#[]⟩ (p ++ ⟨#[46, 46]⟩).data.toList := splitB_cut _
  have h2 : (p ++ (⟨#[46, 46]⟩ : ByteArray)).data.toList = (p.data.toList ++ [46]) ++ [46] := by simp
  obtain ⟨ys, hy⟩ := cutB_dot (p.data.toList ++ [46]) ⟨#[]⟩
  rw [h2, hy] at h1
  unfold pathOk
  rw [h1, List.any_append]
  have : ([(⟨#[]⟩ : ByteArray)].any oddB) = true := by decide
  rw [this]
  simp
theorem bad_found (doc : Val) (p : ByteArray) : foundV doc (p ++ ⟨#[46, 46]⟩) = none := if_neg (by rw [dots_bad]; decide)
def bool1 : Val := .mk 1 1 ⟨#[]⟩ [] []
theorem bad_no (doc : Val) (p : ByteArray) (op : Int) (h0 : op ≠ 0) (h1 : op ≠ 1) (h3 : op ≠ 3) : matchD 4 1 (.mk op (p ++ ⟨#[46, 46]⟩) bool1 []) doc = false := by
  show (if op = 0 then _ else if op = 1 then _ else condK 4 (.mk op (p ++ ⟨#[46, 46]⟩) bool1 []) (foundV doc (p ++ ⟨#[46, 46]⟩))) = _
  rw [if_neg h0, if_neg h1, bad_found]
  show (if op = 9 then _ else (op == 3)) = _
  by_cases h9 : op = 9
  · rw [if_pos h9]; rfl
  · rw [if_neg h9]; simpa using h3
theorem bad_ne (doc : Val) (p : ByteArray) : matchD 4 1 (.mk 3 (p ++ ⟨#[46, 46]⟩) bool1 []) doc = true := by
  show condK 4 (.mk 3 (p ++ ⟨#[46, 46]⟩) bool1 []) (foundV doc (p ++ ⟨#[46, 46]⟩)) = _
  rw [bad_found]; rfl
theorem odd_no (doc : Val) (s : ByteArray) (op : Int) (h : op < 0 ∨ 9 < op) : matchD 4 1 (.mk op s Val.zero []) doc = false := by
  show (if op = 0 then _ else if op = 1 then _ else condK 4 (.mk op s Val.zero []) (foundV doc s)) = _
  rw [if_neg (by omega), if_neg (by omega)]
  unfold condK
  have h9 : ¬ (Flt.mk op s Val.zero []).op = 9 := by show ¬ op = 9; omega
  rw [if_neg h9]
  cases foundV doc s with
  | none => show (op == 3) = false; simp; omega
  | some x => show oneK op _ _ = false; unfold oneK; rw [if_neg (by omega), if_neg (by omega), if_neg (by omega), if_neg (by omega), if_neg (by omega), if_neg (by omega), if_neg (by omega)]
theorem or_no (doc : Val) : matchD 4 1 (.mk 1 ⟨#[]⟩ Val.zero []) doc = false := rfl
theorem and_yes (doc : Val) : matchD 4 3 (.mk 0 ⟨#[]⟩ Val.zero []) doc = true := rfl
def Val.obj0 : Val := .mk 5 0 ⟨#[]⟩ [] []
theorem obj_parse : parseD 8 Val.obj0 = .ok (.mk 0 ⟨#[]⟩ Val.zero []) := by kernel_rfl

theorem obj_nok : NOk 1 Val.obj0 := by
  refine ⟨by decide, by decide, ?_, ?_⟩
  · intro y h
    cases h
  · intro f h
    cases h
theorem leafn_calls (op : Int) (h2 : inI64 op) (s : ByteArray) (hs : s.size < 4294967281) (u doc : Val) (la : Option Addr) (ln lc : Nat) (fa : Option Addr) (fn fc : Nat) (la2 : Option Addr) (ln2 lc2 : Nat) (fa2 : Option Addr) (fn2 fc2 : Nat) (N : Nat) (W : World) (hF : Few N doc) (G : AwG W) (hu : (KV 4).R W (fun _ => True) u [.int .i64 u.kind, .int .i64 u.int, .string u.text, .slice la ln lc, .slice fa fn fc]) (hx : (KV 4).R W (fun _ => True) doc [.int .i64 doc.kind, .int .i64 doc.int, .string doc.text, .slice la2 ln2 lc2, .slice fa2 fn2 fc2]) :
    Calls Tryz.prog 25 #[.agg #[.int .i64 op, .string s, .int .i64 u.kind, .int .i64 u.int, .string u.text, .slice la ln lc, .slice fa fn fc, .slice none 0 0], .agg #[.int .i64 doc.kind, .int .i64 doc.int, .string doc.text, .slice la2 ln2 lc2, .slice fa2 fn2 fc2]] W fun e w' => e = .returned (.bool (matchD 4 1 (.mk op s u []) doc)) ∧ Below W.heap.size W w' :=
  match_calls 2 1 (.mk op s u []) la ln lc fa fn fc none 0 0 doc la2 ln2 lc2 fa2 fn2 fc2 N W hF ⟨hs, fun s h => by cases h⟩ G.fil.par G.fin (KF_mk (f := .mk op s u []) h2 (by show s.size ≤ maxLen; unfold maxLen; omega) hu (Row.nil _ _ _)) hx
theorem seven_ops : ∀ k : Nat, k < 7 → ∃ o : Int, 2 ≤ o ∧ o ≤ 9 ∧ o ≠ 3 ∧ (#[.int .i64 2, .int .i64 4, .int .i64 5, .int .i64 6, .int .i64 7, .int .i64 8, .int .i64 9] : Array Value)[k]? = some (.int .i64 o)
  | 0, _ => ⟨2, by decide, by decide, by decide, rfl⟩
  | 1, _ => ⟨4, by decide, by decide, by decide, rfl⟩
  | 2, _ => ⟨5, by decide, by decide, by decide, rfl⟩
  | 3, _ => ⟨6, by decide, by decide, by decide, rfl⟩
  | 4, _ => ⟨7, by decide, by decide, by decide, rfl⟩
  | 5, _ => ⟨8, by decide, by decide, by decide, rfl⟩
  | 6, _ => ⟨9, by decide, by decide, by decide, rfl⟩
  | n + 7, h => by omega

set_option maxRecDepth 100000 in
set_option maxHeartbeats 4000000 in
theorem none_law_calls (A0 : Option Addr) (n0 c0 : Nat) (op : Int) (hop : inI64 op) (p : ByteArray) (hp : p.size ≤ 4294967000) (w : World) (b0 : Bs w (fun k => k < w.heap.size) A0 n0 c0) (G : FnG w) :
    Calls Tryz.prog 10 #[.slice A0 n0 c0, .int .i64 op, .string p] w fun e w' => e = .returned (.bool true) ∧ Below w.heap.size w w' := by
  have GG := Ap.of G
  have B0 := Ap.of b0
  have HOP := Ap.of hop
  have HPS := Ap.of hp
  have esz : ¬ 9223372036854775807 < p.size + 2 := by omega
  clear G b0 hop hp
  go_enter Tryz.func10, Tryz.ntmps10
  go_wp2_with fail
  refine (fawake_calls w GG.out.aw).mono ?_
  rintro e w1 ⟨rfl, hb⟩
  have HB1 := Ap.of hb
  have G1 := Ap.of (GG.out.below hb)
  clear hb
  go_wp2_with fail
  refine (of_calls A0 n0 c0 w1 _ (fun k hk => Nat.lt_of_lt_of_le hk HB1.out.size) G1.out.laid (B0.out.below HB1.out)).mono ?_
  rintro e w2 ⟨doc, la2, ln2, lc2, fa2, fn2, fc2, rfl, hd, hgd, hb⟩
  have HD := Ap.of ((KV 4).mono (ok' := fun _ => True) (fun _ _ => trivial) hd)
  have HF4 := Ap.of (Few.of_good hgd)
  have HB2 := Ap.of (bel_step HB1.out hb)
  have G2 := Ap.of (G1.out.below hb)
  clear hd hgd hb
  have hpa := filter_calls 3 1 8 Val.obj0 none 0 0 none 0 0 (fun _ => False) (w2.alloc (.cells #[.int .i64 doc.kind, .int .i64 doc.int, .string doc.text, .slice la2 ln2 lc2, .slice fa2 fn2 fc2] 28)) (by decide) (by decide) (fun k hk => hk.elim) obj_nok (G2.out.below (bel_alloc _ _)).aw.fil ⟨none, 0, 0, none, 0, 0, rfl, ⟨by decide, by decide⟩, ⟨by decide, by decide⟩, by decide, Row.nil _ _ _, Row.nil _ _ _⟩
  rw [obj_parse] at hpa
  have HPA := Ap.of hpa
  have HBD := Ap.of (blk_new (w := w2) (k := w2.heap.size) (o := .cells #[.int .i64 doc.kind, .int .i64 doc.int, .string doc.text, .slice la2 ln2 lc2, .slice fa2 fn2 fc2] 28) rfl)
  clear hpa
  go_wp2_with fail
  refine HPA.out.mono ?_
  rintro e w3 ⟨f, la, ln, lc, fa, fn, fc, sa, sn, sc, er, rfl, hR, hb, (⟨hf, rfl⟩ | ⟨c, m, g, hc, _⟩)⟩
  case inr => cases hc
  have hf : Flt.mk 0 ⟨#[]⟩ Val.zero [] = f := by injection hf
  have HB3 := Ap.of (bel_step (bel_alloc w2 (.cells #[.int .i64 doc.kind, .int .i64 doc.int, .string doc.text, .slice la2 ln2 lc2, .slice fa2 fn2 fc2] 28)) hb)
  have bd := blk_bel HBD.out hb
  have HBD3 := Ap.of bd
  have HR := Ap.of ((KF 4 3).mono (ok' := fun _ => True) (fun _ _ => trivial) hR)
  have HFF := Ap.of hf
  have GW := Ap.of (fun W (hW : Below w2.heap.size w2 W) => (G2.out.below hW).aw)
  have hodd := fun W (hW : Below w2.heap.size w2 W) => leafn_calls op HOP.out ⟨#[97]⟩ (by decide) Val.zero doc none 0 0 none 0 0 la2 ln2 lc2 fa2 fn2 fc2 4 W HF4.out (GW.out W hW) (KV_zero _ _ 3) (Knd.below HD.out hW)
  have hbad := fun (o : Int) (ho : 2 ≤ o ∧ o ≤ 9) W (hW : Below w2.heap.size w2 W) => leafn_calls o ⟨by omega, by omega⟩ (p ++ ⟨#[46, 46]⟩) (by rw [ByteArray.size_append]; show p.size + 2 < _; have := HPS.out; omega) bool1 doc none 0 0 none 0 0 la2 ln2 lc2 fa2 fn2 fc2 4 W HF4.out (GW.out W hW) (flat_R 3 _ _ 1 1 _ (inI64_small (by decide) (by decide)) (inI64_small (by decide) (by decide)) empty_small) (Knd.below HD.out hW)
  have hor := fun W (hW : Below w2.heap.size w2 W) => leafn_calls 1 ⟨by decide, by decide⟩ ⟨#[]⟩ (by decide) Val.zero doc none 0 0 none 0 0 la2 ln2 lc2 fa2 fn2 fc2 4 W HF4.out (GW.out W hW) (KV_zero _ _ 3) (Knd.below HD.out hW)
  have hand := fun W (hW : Below w2.heap.size w2 W) (hW3 : Below w3.heap.size w3 W) => match_calls 2 3 f la ln lc fa fn fc sa sn sc doc la2 ln2 lc2 fa2 fn2 fc2 4 W HF4.out (by rw [← HFF.out]; exact ⟨by decide, fun s h => by cases h⟩) (GW.out W hW).fil.par (GW.out W hW).fin (Knd.below HR.out hW3) (Knd.below HD.out hW)
  rw [or_no] at hor
  rw [show matchD (2 + 2) 3 f doc = true by rw [← hf]; rfl] at hand
  have HODD := Ap.of hodd
  have HBAD := Ap.of hbad
  have HOR := Ap.of hor
  have HAND := Ap.of hand
  have hodd0 : (op < 0 ∨ 9 < op) → matchD 4 1 (.mk op ⟨#[97]⟩ Val.zero []) doc = false := odd_no doc ⟨#[97]⟩ op
  have HODD0 := Ap.of hodd0
  have dx := blk_cells bd
  have lx := blk_lt bd
  clear hR hb bd hodd hbad hor hand hf hodd0
  generalize f.op = fo at *
  generalize f.path = fp at *
  generalize f.val.kind = fk at *
  generalize f.val.int = fi at *
  generalize f.val.text = ft at *
  go_wp2_with fail
  refine (HODD.out _ (bel_step HB3.out (bel_alloc _ _))).mono ?_
  generalize hoq : matchD 4 1 (.mk op ⟨#[97]⟩ Val.zero []) doc = oq at *
  rintro e w4 ⟨rfl, hb⟩
  have HB34 := Ap.of (bel_step (bel_alloc w3 (.cells #[.int .i64 fo, .string fp, .int .i64 fk, .int .i64 fi, .string ft, .slice la ln lc, .slice fa fn fc, .slice sa sn sc] 42)) hb)
  have bd4 := blk_bel HBD3.out HB34.out
  have bf4 := blk_bel (blk_new (w := w3) (k := w3.heap.size) (o := .cells #[.int .i64 fo, .string fp, .int .i64 fk, .int .i64 fi, .string ft, .slice la ln lc, .slice fa fn fc, .slice sa sn sc] 42) rfl) hb
  have HBD4 := Ap.of bd4
  have HBF4 := Ap.of bf4
  have dx := blk_cells bd4
  have lx := blk_lt bd4
  clear hb bd4 bf4 hoq HODD
  go_wp2_with fail
  have b11 := blk_old (o' := .cells #[.int .i64 2, .int .i64 4, .int .i64 5, .int .i64 6, .int .i64 7, .int .i64 8, .int .i64 9] 38) (blk_new (w := w4) (k := w4.heap.size) (o := .cells #[.int .i64 0, .string (p ++ ⟨#[46, 46]⟩), .int .i64 1, .int .i64 1, .string ⟨#[]⟩, .slice none 0 0, .slice none 0 0, .slice none 0 0] 42) rfl)
  have bs := blk_new (w := w4.alloc (.cells #[.int .i64 0, .string (p ++ ⟨#[46, 46]⟩), .int .i64 1, .int .i64 1, .string ⟨#[]⟩, .slice none 0 0, .slice none 0 0, .slice none 0 0] 42)) (k := w4.heap.size + 1) (o := .cells #[.int .i64 2, .int .i64 4, .int .i64 5, .int .i64 6, .int .i64 7, .int .i64 8, .int .i64 9] 38) (by simp)
  have hb4 := bel_step (bel_alloc w4 (.cells #[.int .i64 0, .string (p ++ ⟨#[46, 46]⟩), .int .i64 1, .int .i64 1, .string ⟨#[]⟩, .slice none 0 0, .slice none 0 0, .slice none 0 0] 42)) (bel_alloc _ (.cells #[.int .i64 2, .int .i64 4, .int .i64 5, .int .i64 6, .int .i64 7, .int .i64 8, .int .i64 9] 38))
  generalize (w4.alloc (.cells #[.int .i64 0, .string (p ++ ⟨#[46, 46]⟩), .int .i64 1, .int .i64 1, .string ⟨#[]⟩, .slice none 0 0, .slice none 0 0, .slice none 0 0] 42)).alloc (.cells #[.int .i64 2, .int .i64 4, .int .i64 5, .int .i64 6, .int .i64 7, .int .i64 8, .int .i64 9] 38) = U at b11 bs hb4 ⊢
  have HB2U := Ap.of (bel_step HB3.out (bel_step HB34.out hb4))
  have HB3U := Ap.of (bel_step HB34.out hb4)
  have HBDU := Ap.of (blk_bel HBD4.out hb4)
  have HBFU := Ap.of (blk_bel HBF4.out hb4)
  have HBS := Ap.of bs
  have HB11 := Ap.of b11
  have LD := Ap.of (And.intro (blk_lt HBD4.out) (And.intro (blk_lt HBF4.out) (And.intro HB3.out.size HB34.out.size)))
  clear b11 bs hb4 dx lx esz
  go_loopw [33] (fun vi wr => ∃ (k : Nat) (o : Int), k ≤ 7 ∧ vi = .int .i64 k ∧ Ap (wr.heap[w4.heap.size]? = some (.cells #[.int .i64 o, .string (p ++ ⟨#[46, 46]⟩), .int .i64 1, .int .i64 1, .string ⟨#[]⟩, .slice none 0 0, .slice none 0 0, .slice none 0 0] 42 (0, 0))) ∧ Ap (Only (fun j => j = w4.heap.size) U wr)) (fun vi _ => 7 - (intOf vi).toNat)
  case atStart => exact ⟨0, 0, by decide, rfl, HB11, Ap.of (Only.refl _ _)⟩
  case round =>
    obtain ⟨k, o, hk, rfl, B11, ON⟩ := hrel
    have hb2r : Below w2.heap.size w2 wr := bel_only HB2U.out HB2U.out.size ON.out (fun j he => by have h := LD.out; omega)
    have hb3r : Below w3.heap.size w3 wr := bel_only HB3U.out HB3U.out.size ON.out (fun j he => by have h := LD.out; omega)
    have HB2R := Ap.of hb2r
    have HB3R := Ap.of hb3r
    have bdr := blk_only HBDU.out ON.out (fun e => by have h := LD.out; omega)
    have bfr := blk_only HBFU.out ON.out (fun e => by have h := LD.out; omega)
    have bsr := blk_only HBS.out ON.out (fun e => by omega)
    have BDR := Ap.of bdr
    have BFR := Ap.of bfr
    have c11 := blk_cells B11.out
    have f11 := blk_free B11.out
    have l11 := blk_lt B11.out
    have cd := blk_cells bdr
    have ld := blk_lt bdr
    have nd : w2.heap.size ≠ w4.heap.size := by have h := LD.out; omega
    have nf : w3.heap.size ≠ w4.heap.size := by have h := LD.out; omega
    by_cases hlt : k < 7
    · obtain ⟨o2, h2, h9, h3, hq⟩ := seven_ops k hlt
      have cs := blk_cells bsr
      have cq := (cs k).trans hq
      have ls := blk_lt bsr
      have hk8 : (k : Int) < 7 := by omega
      have hs := Only.setCell wr ⟨w4.heap.size, 0, none⟩ (.int .i64 o2)
      have hcall := HBAD.out o2 ⟨h2, h9⟩ (wr.setCell ⟨w4.heap.size, 0, none⟩ (.int .i64 o2)) (bel_only HB2R.out HB2R.out.size hs (fun j he => by have h := LD.out; simp at he; omega))
      rw [bad_no doc p o2 (by omega) (by omega) h3] at hcall
      have HC := Ap.of hcall
      have HS := Ap.of hs
      have H11 := Ap.of (blk_set B11.out 0 (.int .i64 o2))
      have HLT := Ap.of hlt
      clear hb2r hb3r bdr bfr bsr hq cs hcall hs h2 h9 h3
      go_wp2_with fail
      refine HC.out.mono ?_
      rintro e w5 ⟨rfl, hb⟩
      have HB5 := Ap.of hb
      clear hb c11 f11 l11 cd ld cq ls
      go_wp2_with fail
      go_roundw
      case rel => exact ⟨k + 1, o2, by have := HLT.out; omega, by go_num, Ap.of (blk_bel (by simpa using H11.out) HB5.out), Ap.of ((ON.out.trans HS.out (fun j hj => .inl (by simpa using hj))).bel HB5.out)⟩
      case measure => have := HLT.out; simp [intOf]; omega
    · obtain rfl : k = 7 := by omega
      have hs := Only.setCell wr ⟨w4.heap.size, 0, none⟩ (.int .i64 3)
      have hb2s := bel_only HB2R.out HB2R.out.size hs (fun j he => by have h := LD.out; simp at he; omega)
      have hb3s := bel_only HB3R.out HB3R.out.size hs (fun j he => by have h := LD.out; simp at he; omega)
      have H11 := Ap.of (show (wr.setCell ⟨w4.heap.size, 0, none⟩ (.int .i64 3)).heap[w4.heap.size]? = some (.cells #[.int .i64 3, .string (p ++ ⟨#[46, 46]⟩), .int .i64 1, .int .i64 1, .string ⟨#[]⟩, .slice none 0 0, .slice none 0 0, .slice none 0 0] 42 (0, 0)) by simpa using blk_set B11.out 0 (.int .i64 3))
      have HDS := Ap.of (blk_only bdr hs (fun e => nd (by simpa using e)))
      have HFS := Ap.of (blk_only bfr hs (fun e => nf (by simpa using e)))
      have HB2S := Ap.of hb2s
      have HB3S := Ap.of hb3s
      have cf := blk_cells bfr
      have lf := blk_lt bfr
      clear hb2r hb3r bdr bfr bsr hs hb2s hb3s
      have hrange : (decide (0 ≤ op) = true ∧ decide (op ≤ 9) = true) ∨ (decide (0 ≤ op) = false ∧ oq = false) ∨ (decide (0 ≤ op) = true ∧ decide (op ≤ 9) = false ∧ oq = false) := by
        by_cases h1 : op < 0
        · exact .inr (.inl ⟨by simpa using h1, HODD0.out (.inl h1)⟩)
        · by_cases h2 : 9 < op
          · exact .inr (.inr ⟨by simp; omega, by simpa using h2, HODD0.out (.inr h2)⟩)
          · exact .inl ⟨by simp; omega, by simp; omega⟩
      rcases hrange with ⟨q0, q9⟩ | ⟨q0, rfl⟩ | ⟨q0, q9, rfl⟩
      all_goals (
        go_wp2_with fail
        refine (HAND.out _ HB2S.out HB3S.out).mono ?_
        rintro e w5 ⟨rfl, hb⟩
        have HB25 := Ap.of (bel_step HB2S.out hb)
        have b11 := blk_bel H11.out hb
        have bd5 := blk_bel HDS.out hb
        have BD5 := Ap.of bd5
        have e11 := blk_cells b11
        have m11 := blk_lt b11
        have ed := blk_cells bd5
        have md := blk_lt bd5
        have hcall := HBAD.out 3 ⟨by decide, by decide⟩ w5 HB25.out
        rw [bad_ne doc p] at hcall
        have HC := Ap.of hcall
        clear hb b11 bd5 hcall c11 f11 l11 cd ld cf lf
        go_wp2_with fail
        refine HC.out.mono ?_
        rintro e w6 ⟨rfl, hb⟩
        have HB26 := Ap.of (bel_step HB25.out hb)
        have bd6 := blk_bel BD5.out hb
        have gd := blk_cells bd6
        have kd := blk_lt bd6
        clear hb bd6 e11 m11 ed md
        go_wp2_with fail
        refine (HOR.out _ HB26.out).mono ?_
        rintro e w7 ⟨rfl, hb⟩
        have HB27 := Ap.of (bel_step HB26.out hb)
        clear hb gd kd
        go_wp2_with fail
        go_ret
        exact ⟨rfl, bel_step HB2.out HB27.out⟩)
end Go.Proofs.YtlomieopppndeaaGreatDoor
