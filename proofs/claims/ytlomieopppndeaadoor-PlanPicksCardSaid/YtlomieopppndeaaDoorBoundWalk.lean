/- plan.bound, key.Behind: where the keys of a condition begin, and end. -/
import Derived.Test.YtlomieopppndeaaDoorCondWalk
import Derived.Test.YtlomieopppndeaaDoorKeyPut2
namespace Go.Proofs.YtlomieopppndeaaDoor
open Go.RowKit

theorem behind_calls (k : ByteArray) (h : k.size ≤ 1000000) (w : World) : Calls Tryd.prog 38 #[.string k] w fun e w' => e = .returned (.string (endB k)) ∧ w' = w := by
  have z1 : ¬ 9223372036854775807 < k.size + 1 := by omega
  clear h
  unfold endB
  go_enter Tryd.func38, Tryd.ntmps38
  go_wp2_with fail
  go_ret
  exact ⟨rfl, rfl⟩
theorem keyB_size {x : Val} (h : GoodV 5 x) (e : Nat) : (keyB e x).size ≤ 100000 := by
  have h1 := key_len 5 x h e
  have h2 : keyC 5 ≤ 100000 := by decide
  have h3 : (keyB e x).size = (keyL e x).length := List.size_toArray
  omega
set_option maxRecDepth 100000 in
set_option maxHeartbeats 4000000 in
theorem bound_calls (d e : Nat) (f : Flt) (la : Option Addr) (ln lc : Nat) (fa : Option Addr) (fn fc : Nat) (sa : Option Addr) (sn sc : Nat) (w : World) (he : 5 ≤ e) (hc : CondV f) (G : ParG w) (hR : (KF 11 (d + 1)).R w (fun _ => True) f [.int .i64 f.op, .string f.path, .int .i64 f.val.kind, .int .i64 f.val.int, .string f.val.text, .slice la ln lc, .slice fa fn fc, .slice sa sn sc]) :
    Calls Tryd.prog 23 #[.agg #[.int .i64 f.op, .string f.path, .int .i64 f.val.kind, .int .i64 f.val.int, .string f.val.text, .slice la ln lc, .slice fa fn fc, .slice sa sn sc]] w fun en w' => en = .returned (.tuple #[.string (boundF e f).1, .string (boundF e f).2.1, .bool (boundF e f).2.2]) ∧ Below w.heap.size w w' := by
  have hba := bel_alloc w (.cells #[.int .i64 f.op, .string f.path, .int .i64 f.val.kind, .int .i64 f.val.int, .string f.val.text, .slice la ln lc, .slice fa fn fc, .slice sa sn sc] 32)
  have HPU := Ap.of (put_calls 5 11 e f.val la ln lc fa fn fc (w.alloc (.cells #[.int .i64 f.op, .string f.path, .int .i64 f.val.kind, .int .i64 f.val.int, .string f.val.text, .slice la ln lc, .slice fa fn fc, .slice sa sn sc] 32)) (by decide) he (Nat.le_refl _) hc.1 (G.below hba) (Knd.below (KF_parts hR).2.2.1 hba))
  have HKS := Ap.of (keyB_size hc.1 e)
  have BF := Ap.of (blk_new (w := w) (k := w.heap.size) (o := .cells #[.int .i64 f.op, .string f.path, .int .i64 f.val.kind, .int .i64 f.val.int, .string f.val.text, .slice la ln lc, .slice fa fn fc, .slice sa sn sc] 32) rfl)
  have HBA := Ap.of hba
  obtain ⟨b1, hb1⟩ : ∃ b, b = boundF e f := ⟨_, rfl⟩
  rw [← hb1]
  have HB := Ap.of hb1
  clear hba hc G hR hb1
  unfold PutP at *
  unfold boundF at HB
  generalize keyB e f.val = k at *
  have HBH := Ap.of (fun W => behind_calls k (by have := HKS.out; omega) W)
  generalize hf1 : f.path = fp at *
  generalize hf2 : f.val.kind = fk at *
  generalize hf3 : f.val.int = fi at *
  generalize hf4 : f.val.text = ft at *
  clear hf1 hf2 hf3 hf4
  have ho : f.op = 2 ∨ f.op = 4 ∨ f.op = 5 ∨ f.op = 6 ∨ f.op = 7 ∨ (f.op ≠ 2 ∧ f.op ≠ 4 ∧ f.op ≠ 5 ∧ f.op ≠ 6 ∧ f.op ≠ 7) := by omega
  generalize f.op = fo at *
  rcases ho with rfl | rfl | rfl | rfl | rfl | ⟨n2, n4, n5, n6, n7⟩
  · have HE := Ap.of HB.out
    clear HB
    go_enter Tryd.func23, Tryd.ntmps23
    go_wp2_with fail
    refine HPU.out.mono ?_
    rintro en w1 ⟨rfl, hb⟩
    have bb1 := blk_bel BF.out hb
    have c1 := blk_cells bb1
    have l1 := blk_lt bb1
    have HBE := Ap.of (bel_step HBA.out hb)
    clear hb bb1
    go_wp2_with fail
    refine (HBH.out _).mono ?_
    rintro en w2 ⟨rfl, rfl⟩
    go_wp2_with fail
    refine bodyPost_ret (v := .tuple #[.string b1.1, .string b1.2.1, .bool b1.2.2]) ?_ rfl ⟨rfl, HBE.out⟩
    rw [HE.out]
    simp [results, Tryd.results23, go_sem, endB]
  · have HE := Ap.of HB.out
    clear HB
    go_enter Tryd.func23, Tryd.ntmps23
    go_wp2_with fail
    refine HPU.out.mono ?_
    rintro en w1 ⟨rfl, hb⟩
    have bb1 := blk_bel BF.out hb
    have c1 := blk_cells bb1
    have l1 := blk_lt bb1
    have HBE := Ap.of (bel_step HBA.out hb)
    clear hb bb1
    go_wp2_with fail
    refine (HBH.out _).mono ?_
    rintro en w2 ⟨rfl, rfl⟩
    go_wp2_with fail
    refine bodyPost_ret (v := .tuple #[.string b1.1, .string b1.2.1, .bool b1.2.2]) ?_ rfl ⟨rfl, HBE.out⟩
    rw [HE.out]
    simp [results, Tryd.results23, go_sem, endB]
  · have HE := Ap.of HB.out
    clear HB
    go_enter Tryd.func23, Tryd.ntmps23
    go_wp2_with fail
    refine HPU.out.mono ?_
    rintro en w1 ⟨rfl, hb⟩
    have bb1 := blk_bel BF.out hb
    have c1 := blk_cells bb1
    have l1 := blk_lt bb1
    have HBE := Ap.of (bel_step HBA.out hb)
    clear hb bb1
    go_wp2_with fail
    refine bodyPost_ret (v := .tuple #[.string b1.1, .string b1.2.1, .bool b1.2.2]) ?_ rfl ⟨rfl, HBE.out⟩
    rw [HE.out]
    simp [results, Tryd.results23, go_sem]
  · have HE := Ap.of HB.out
    clear HB
    go_enter Tryd.func23, Tryd.ntmps23
    go_wp2_with fail
    refine HPU.out.mono ?_
    rintro en w1 ⟨rfl, hb⟩
    have bb1 := blk_bel BF.out hb
    have c1 := blk_cells bb1
    have l1 := blk_lt bb1
    have HBE := Ap.of (bel_step HBA.out hb)
    clear hb bb1
    go_wp2_with fail
    refine bodyPost_ret (v := .tuple #[.string b1.1, .string b1.2.1, .bool b1.2.2]) ?_ rfl ⟨rfl, HBE.out⟩
    rw [HE.out]
    simp [results, Tryd.results23, go_sem]
  · have HE := Ap.of HB.out
    clear HB
    go_enter Tryd.func23, Tryd.ntmps23
    go_wp2_with fail
    refine HPU.out.mono ?_
    rintro en w1 ⟨rfl, hb⟩
    have bb1 := blk_bel BF.out hb
    have c1 := blk_cells bb1
    have l1 := blk_lt bb1
    have HBE := Ap.of (bel_step HBA.out hb)
    clear hb bb1
    go_wp2_with fail
    refine (HBH.out _).mono ?_
    rintro en w2 ⟨rfl, rfl⟩
    go_wp2_with fail
    refine bodyPost_ret (v := .tuple #[.string b1.1, .string b1.2.1, .bool b1.2.2]) ?_ rfl ⟨rfl, HBE.out⟩
    rw [HE.out]
    simp [results, Tryd.results23, go_sem, endB]
  · have t2 : (fo == 2) = false := by simpa using n2
    have t4 : (fo == 4) = false := by simpa using n4
    have t5 : (fo == 5) = false := by simpa using n5
    have t6 : (fo == 6) = false := by simpa using n6
    have t7 : (fo == 7) = false := by simpa using n7
    have HE := Ap.of (show b1 = (⟨#[]⟩, ⟨#[]⟩, false) by rw [HB.out, if_neg n2, if_neg n4, if_neg n5, if_neg n6, if_neg n7])
    clear n2 n4 n5 n6 n7 HB
    go_enter Tryd.func23, Tryd.ntmps23
    go_wp2_with fail
    refine HPU.out.mono ?_
    rintro en w1 ⟨rfl, hb⟩
    have bb1 := blk_bel BF.out hb
    have c1 := blk_cells bb1
    have l1 := blk_lt bb1
    have HBE := Ap.of (bel_step HBA.out hb)
    clear hb bb1
    go_wp2_with fail
    refine bodyPost_ret (v := .tuple #[.string b1.1, .string b1.2.1, .bool b1.2.2]) ?_ rfl ⟨rfl, HBE.out⟩
    rw [HE.out]
    simp [results, Tryd.results23, go_sem]
end Go.Proofs.YtlomieopppndeaaDoor
