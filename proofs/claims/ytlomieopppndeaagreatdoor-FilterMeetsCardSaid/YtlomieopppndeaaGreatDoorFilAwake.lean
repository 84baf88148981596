/- roundelaylaw16.awake: the document's examples. -/
import Derived.Test.YtlomieopppndeaaGreatDoorFieldWalk
import Derived.Test.YtlomieopppndeaaGreatDoorMatchWalk
namespace Go.Proofs.YtlomieopppndeaaGreatDoor
open Go.RowKit

/-- What the statements on filters read of the program's own variables. -/
structure AwG (w : World) : Prop where
  fil : FilG w
  fin : FinG w
  err : ErrG w
theorem AwG.below {w w' : World} (h : AwG w) (hb : Below w.heap.size w w') : AwG w' := ⟨h.fil.below hb, h.fin.below hb, h.err.below hb⟩

/-- An object of one field. -/
theorem one_field_R {d : Nat} {w : World} {ok : Nat → Prop} {b : Nat} {nm : ByteArray} {y : Val} (la2 : Option Addr) (ln2 lc2 : Nat) (fa2 : Option Addr) (fn2 fc2 : Nat) (hb : w.heap[b]? = some (.cells #[.string nm, .int .i64 y.kind, .int .i64 y.int, .string y.text, .slice la2 ln2 lc2, .slice fa2 fn2 fc2] 37 (0, 0))) (ob : ok b) (hnm : nm.size ≤ maxLen) (hy : (KV (d + 1)).R w ok y [.int .i64 y.kind, .int .i64 y.int, .string y.text, .slice la2 ln2 lc2, .slice fa2 fn2 fc2]) :
    (KV (d + 2)).R w ok (.mk 5 0 ⟨#[]⟩ [] [(nm, y)]) [.int .i64 5, .int .i64 0, .string ⟨#[]⟩, .slice none 0 0, .slice (some ⟨b, 0, none⟩) 1 1] := by
  refine ⟨none, 0, 0, some ⟨b, 0, none⟩, 1, 1, rfl, i64_5, i64_0, empty_small, Row.nil _ _ _, ?_⟩
  refine Row.of_block (K := KFld (KV (d + 1))) [[.string nm, .int .i64 y.kind, .int .i64 y.int, .string y.text, .slice la2 ln2 lc2, .slice fa2 fn2 fc2]] ([(nm, y)] : List Fld) hb rfl ob (show 1 ≤ maxLen by decide) rfl (fun i x hx => ?_)
  obtain rfl : i = 0 := by
    rcases Nat.eq_zero_or_pos i with h | h
    · exact h
    · rw [List.getElem?_eq_none (by simp; omega)] at hx; cases hx
  simp at hx
  subst hx
  exact ⟨_, rfl, _, rfl, hnm, hy⟩

def aw3 : Val := .mk 2 3 ⟨#[]⟩ [] []
def aw4 : Val := .mk 2 4 ⟨#[]⟩ [] []
def awT : Val := .mk 5 0 ⟨#[]⟩ [] [(⟨#[36, 103, 116]⟩, aw3)]
def awF : Val := .mk 5 0 ⟨#[]⟩ [] [(⟨#[97]⟩, awT)]
def awA : Val := .mk 5 0 ⟨#[]⟩ [] [(⟨#[97]⟩, aw4)]
def awB : Val := .mk 5 0 ⟨#[]⟩ [] [(⟨#[98]⟩, aw4)]
def awP : Flt := .mk 0 ⟨#[]⟩ Val.zero [.mk 0 ⟨#[]⟩ Val.zero [.mk 4 ⟨#[97]⟩ aw3 []]]
theorem aw_parse : parseD 8 awF = .ok awP := by kernel_rfl
theorem aw_bad : parseD 8 aw4 = .error 7 := by kernel_rfl
theorem aw_yes : matchD 5 6 awP awA = true := by decide +kernel
theorem aw_no : matchD 5 6 awP awB = false := by decide +kernel
theorem aw_nok : NOk 4 awF := by
  refine ⟨by decide, by decide, ?_, fun f h => ?_⟩
  · intro y h
    cases h
  obtain rfl : f = (⟨#[97]⟩, awT) := by simpa [awF, Val.fields] using h
  refine ⟨.inr (by decide), by decide, by decide, ?_, fun f h => ?_⟩
  · intro y h
    cases h
  obtain rfl : f = (⟨#[36, 103, 116]⟩, aw3) := by simpa [awT, Val.fields] using h
  refine ⟨.inr (by decide), by decide, by decide, ?_, ?_⟩
  · intro y h
    cases h
  · intro f h
    cases h
theorem aw_nok4 : NOk 4 aw4 := by
  refine ⟨by decide, by decide, ?_, ?_⟩
  · intro y h
    cases h
  · intro f h
    cases h
theorem aw_fok : FOk 6 awP := by
  refine ⟨by decide, fun s h => ?_⟩
  obtain rfl : s = .mk 0 ⟨#[]⟩ Val.zero [.mk 4 ⟨#[97]⟩ aw3 []] := by simpa [awP, Flt.subs] using h
  refine ⟨by decide, fun s h => ?_⟩
  obtain rfl : s = .mk 4 ⟨#[97]⟩ aw3 [] := by simpa [Flt.subs] using h
  exact ⟨by decide, fun s h => by cases h⟩
theorem aw_fewA : Few 4 awA := Few.of_good (d := 2) (by simp [GoodV, awA, aw4, Val.kind, Val.int, Val.text, Val.list, Val.fields, inI64, wordsOf, namesOf])
theorem aw_fewB : Few 4 awB := Few.of_good (d := 2) (by simp [GoodV, awB, aw4, Val.kind, Val.int, Val.text, Val.list, Val.fields, inI64, wordsOf, namesOf])
theorem aw4_R (d : Nat) (w : World) (ok : Nat → Prop) : (KV (d + 1)).R w ok aw4 [.int .i64 2, .int .i64 4, .string ⟨#[]⟩, .slice none 0 0, .slice none 0 0] := flat_R d w ok 2 4 _ (inI64_small (by decide) (by decide)) (inI64_small (by decide) (by decide)) empty_small

set_option maxRecDepth 100000 in
set_option maxHeartbeats 4000000 in
theorem fawake_calls (w : World) (G : AwG w) : Calls Tryz.prog 26 #[] w fun e w' => e = .returned (.bool true) ∧ Below w.heap.size w w' := by
  have GG := Ap.of G
  clear G
  have hb3 := bel_step (bel_step (bel_alloc w (.cells #[.string ⟨#[36, 103, 116]⟩, .int .i64 2, .int .i64 3, .string ⟨#[]⟩, .slice none 0 0, .slice none 0 0] 37)) (bel_alloc _ (.cells #[.int .i64 5, .int .i64 0, .string ⟨#[]⟩, .slice none 0 0, .slice (some ⟨w.heap.size, 0, none⟩) 1 1] 28)))
    (bel_alloc _ (.cells #[.string ⟨#[97]⟩, .int .i64 5, .int .i64 0, .string ⟨#[]⟩, .slice none 0 0, .slice (some ⟨w.heap.size, 0, none⟩) 1 1] 37))
  have c0 := blk_old (o' := .cells #[.string ⟨#[97]⟩, .int .i64 5, .int .i64 0, .string ⟨#[]⟩, .slice none 0 0, .slice (some ⟨w.heap.size, 0, none⟩) 1 1] 37) (blk_old (o' := .cells #[.int .i64 5, .int .i64 0, .string ⟨#[]⟩, .slice none 0 0, .slice (some ⟨w.heap.size, 0, none⟩) 1 1] 28) (blk_new (w := w) (k := w.heap.size) (o := .cells #[.string ⟨#[36, 103, 116]⟩, .int .i64 2, .int .i64 3, .string ⟨#[]⟩, .slice none 0 0, .slice none 0 0] 37) rfl))
  have c2 := blk_new (w := (w.alloc (.cells #[.string ⟨#[36, 103, 116]⟩, .int .i64 2, .int .i64 3, .string ⟨#[]⟩, .slice none 0 0, .slice none 0 0] 37)).alloc (.cells #[.int .i64 5, .int .i64 0, .string ⟨#[]⟩, .slice none 0 0, .slice (some ⟨w.heap.size, 0, none⟩) 1 1] 28)) (k := w.heap.size + 1 + 1) (o := .cells #[.string ⟨#[97]⟩, .int .i64 5, .int .i64 0, .string ⟨#[]⟩, .slice none 0 0, .slice (some ⟨w.heap.size, 0, none⟩) 1 1] 37) (by simp)
  have hT := one_field_R (d := 1) (ok := fun k => k < w.heap.size + 3) (y := aw3) none 0 0 none 0 0 c0 (by omega) (by decide) (flat_R 1 _ _ 2 3 _ (inI64_small (by decide) (by decide)) (inI64_small (by decide) (by decide)) empty_small)
  have hF := one_field_R (d := 2) (ok := fun k => k < w.heap.size + 3) (y := awT) none 0 0 (some ⟨w.heap.size, 0, none⟩) 1 1 c2 (by omega) (by decide) hT
  have hpa := filter_calls 4 4 8 awF none 0 0 (some ⟨w.heap.size + 1 + 1, 0, none⟩) 1 1 (fun k => k < w.heap.size + 3) _ (by decide) (by decide) (fun k hk => by simp; omega) aw_nok (GG.out.fil.below hb3) hF
  rw [aw_parse] at hpa
  have HPA := Ap.of hpa
  have HB3 := Ap.of hb3
  clear hb3 c0 c2 hT hF hpa
  go_enter Tryz.func26, Tryz.ntmps26
  go_wp2_with fail
  refine HPA.out.mono ?_
  rintro e w1 ⟨f, la, ln, lc, fa, fn, fc, sa, sn, sc, er, rfl, hR, hb, (⟨hf, rfl⟩ | ⟨c, m, g, hc, _⟩)⟩
  case inr => cases hc
  have hf : awP = f := by injection hf
  have HB1 := Ap.of (bel_step HB3.out hb)
  have HR := Ap.of ((KF 5 6).mono (ok' := fun _ => True) (fun _ _ => trivial) hR)
  have HYES := Ap.of (show matchD 5 6 f awA = true by rw [← hf]; exact aw_yes)
  have HNO := Ap.of (show matchD 5 6 f awB = false by rw [← hf]; exact aw_no)
  have HFK := Ap.of (show FOk 6 f by rw [← hf]; exact aw_fok)
  have hma := fun (q : ByteArray) (W : World) (b : Nat) (hW : Below w1.heap.size w1 W) (hq : q.size ≤ maxLen) (hbk : W.heap[b]? = some (.cells #[.string q, .int .i64 2, .int .i64 4, .string ⟨#[]⟩, .slice none 0 0, .slice none 0 0] 37 (0, 0))) (hfw : Few 4 (.mk 5 0 ⟨#[]⟩ [] [(q, aw4)])) =>
    match_calls 3 6 f la ln lc fa fn fc sa sn sc (.mk 5 0 ⟨#[]⟩ [] [(q, aw4)]) none 0 0 (some ⟨b, 0, none⟩) 1 1 4 W hfw HFK.out (GG.out.below (bel_step HB1.out hW)).fil.par (GG.out.below (bel_step HB1.out hW)).fin (Knd.below HR.out hW) (one_field_R (d := 3) (y := aw4) none 0 0 none 0 0 hbk trivial hq (aw4_R 3 _ _))
  have h1 := hma ⟨#[97]⟩ (((w1.alloc (.cells #[.int .i64 f.op, .string f.path, .int .i64 f.val.kind, .int .i64 f.val.int, .string f.val.text, .slice la ln lc, .slice fa fn fc, .slice sa sn sc] 42)).alloc (.cells #[.int .i64 2, .int .i64 4, .string ⟨#[]⟩, .slice none 0 0, .slice none 0 0] 28)).alloc (.cells #[.string ⟨#[97]⟩, .int .i64 2, .int .i64 4, .string ⟨#[]⟩, .slice none 0 0, .slice none 0 0] 37)) (w1.heap.size + 1 + 1) (bel_step (bel_step (bel_alloc _ _) (bel_alloc _ _)) (bel_alloc _ _)) (by decide) (blk_new (by simp)) aw_fewA
  have h2 := fun W b hW hbk => hma ⟨#[98]⟩ W b hW (by decide) hbk aw_fewB
  have h1' : Calls _ _ _ _ (fun e w' => e = .returned (.bool true) ∧ Below _ _ w') := h1.mono (fun e w' h => ⟨by rw [h.1]; exact congrArg _ (congrArg _ HYES.out), h.2⟩)
  have h2' := fun W b hW hbk => (h2 W b hW hbk).mono (R' := fun e w' => e = .returned (.bool false) ∧ Below W.heap.size W w') (fun e w' h => ⟨by rw [h.1]; exact congrArg _ (congrArg _ HNO.out), h.2⟩)
  have H1 := Ap.of h1'
  have H2 := Ap.of h2'
  clear hR hb hma HPA h1 h2 h1' h2' hf
  have hpb := fun W (hW : Below w.heap.size w W) => filter_calls 4 4 8 aw4 none 0 0 none 0 0 (fun _ => False) W (by decide) (by decide) (fun k hk => hk.elim) aw_nok4 (GG.out.fil.below hW) (aw4_R 3 _ _)
  rw [aw_bad] at hpb
  have HPB := Ap.of hpb
  have b2 := blk_old (o' := .cells #[.string ⟨#[97]⟩, .int .i64 2, .int .i64 4, .string ⟨#[]⟩, .slice none 0 0, .slice none 0 0] 37) (blk_old (o' := .cells #[.int .i64 2, .int .i64 4, .string ⟨#[]⟩, .slice none 0 0, .slice none 0 0] 28) (blk_new (w := w1) (k := w1.heap.size) (o := .cells #[.int .i64 f.op, .string f.path, .int .i64 f.val.kind, .int .i64 f.val.int, .string f.val.text, .slice la ln lc, .slice fa fn fc, .slice sa sn sc] 42) rfl))
  have b4 := blk_old (o' := .cells #[.string ⟨#[97]⟩, .int .i64 2, .int .i64 4, .string ⟨#[]⟩, .slice none 0 0, .slice none 0 0] 37) (blk_new (w := w1.alloc (.cells #[.int .i64 f.op, .string f.path, .int .i64 f.val.kind, .int .i64 f.val.int, .string f.val.text, .slice la ln lc, .slice fa fn fc, .slice sa sn sc] 42)) (k := w1.heap.size + 1) (o := .cells #[.int .i64 2, .int .i64 4, .string ⟨#[]⟩, .slice none 0 0, .slice none 0 0] 28) (by simp))
  have BB2 := Ap.of b2
  have BB4 := Ap.of b4
  clear hpb b2 b4
  go_wp2_with fail
  refine H1.out.mono ?_
  rintro e w2 ⟨rfl, hb⟩
  have HB2 := Ap.of (bel_step (bel_step (bel_step (bel_alloc w1 (.cells #[.int .i64 f.op, .string f.path, .int .i64 f.val.kind, .int .i64 f.val.int, .string f.val.text, .slice la ln lc, .slice fa fn fc, .slice sa sn sc] 42)) (bel_alloc _ (.cells #[.int .i64 2, .int .i64 4, .string ⟨#[]⟩, .slice none 0 0, .slice none 0 0] 28))) (bel_alloc _ (.cells #[.string ⟨#[97]⟩, .int .i64 2, .int .i64 4, .string ⟨#[]⟩, .slice none 0 0, .slice none 0 0] 37))) hb)
  have b2 := blk_bel BB2.out hb
  have b4 := blk_bel BB4.out hb
  have BC4 := Ap.of b4
  have c2 := blk_cells b2
  have l2 := blk_lt b2
  have c4 := blk_cells b4
  have l4 := blk_lt b4
  clear hb b2 b4 H1
  go_wp2_with fail
  refine (H2.out _ _ (bel_step HB2.out (bel_alloc _ _)) (blk_new rfl)).mono ?_
  rintro e w3 ⟨rfl, hb⟩
  have HB3' := Ap.of (bel_step HB2.out (bel_step (bel_alloc w2 (.cells #[.string ⟨#[98]⟩, .int .i64 2, .int .i64 4, .string ⟨#[]⟩, .slice none 0 0, .slice none 0 0] 37)) hb))
  have b4 := blk_bel (blk_old (o' := .cells #[.string ⟨#[98]⟩, .int .i64 2, .int .i64 4, .string ⟨#[]⟩, .slice none 0 0, .slice none 0 0] 37) BC4.out) hb
  have BD4 := Ap.of b4
  have d4 := blk_cells b4
  have m4 := blk_lt b4
  clear hb b4 c2 l2 c4 l4 H2
  go_wp2_with fail
  refine (HPB.out _ (bel_step HB1.out HB3'.out)).mono ?_
  rintro e w4 ⟨f2, l5, m5, c5, g5, f5, h5, s5, t5, u5, er, rfl, hR, hb, (⟨hc, _⟩ | ⟨c, m, g, hc, _, rfl, hE⟩)⟩
  case inl => cases hc
  obtain rfl : 7 = c := by injection hc
  have HE := Ap.of hE
  have HB4 := Ap.of (bel_step (bel_step HB1.out HB3'.out) hb)
  have b4 := blk_bel BD4.out hb
  have BE4 := Ap.of b4
  generalize f2.op = fo at *
  generalize f2.path = fp at *
  generalize f2.val.kind = fk at *
  generalize f2.val.int = fi at *
  generalize f2.val.text = ft at *
  have hco := code_calls m 7 _ (w4.alloc (.cells #[.int .i64 fo, .string fp, .int .i64 fk, .int .i64 fi, .string ft, .slice l5 m5 c5, .slice g5 f5 h5, .slice s5 t5 u5] 42)) (HE.out.below (bel_alloc _ _)) (GG.out.below (bel_step HB4.out (bel_alloc _ _))).err.et
  have HCO := Ap.of hco
  clear hc hR hb hE b4 d4 m4 HPB hco
  go_wp2_with fail
  refine HCO.out.mono ?_
  rintro e w5 ⟨rfl, hb⟩
  have b4 := blk_bel (blk_old (o' := .cells #[.int .i64 fo, .string fp, .int .i64 fk, .int .i64 fi, .string ft, .slice l5 m5 c5, .slice g5 f5 h5, .slice s5 t5 u5] 42) BE4.out) hb
  have HB5 := Ap.of (bel_step HB4.out (bel_step (bel_alloc w4 (.cells #[.int .i64 fo, .string fp, .int .i64 fk, .int .i64 fi, .string ft, .slice l5 m5 c5, .slice g5 f5 h5, .slice s5 t5 u5] 42)) hb))
  have e4 := blk_cells b4
  have n4 := blk_lt b4
  have hsame := same_calls 4 aw4 aw4 none 0 0 none 0 0 none 0 0 none 0 0 (fun _ => True) w5 (aw4_R 3 _ _) (aw4_R 3 _ _)
  rw [cmpD_self] at hsame
  have HS := Ap.of hsame
  clear hb b4 hsame
  go_wp2_with fail
  refine HS.out.mono ?_
  rintro e w6 ⟨rfl, hb⟩
  go_wp2_with fail
  go_ret
  exact ⟨rfl, bel_step HB5.out hb⟩
end Go.Proofs.YtlomieopppndeaaGreatDoor
