import Derived.Test.YtlomieopppndeaaGreatDoorCondWalk
import Derived.Test.YtlomieopppndeaaGreatDoorFieldWalk
import Derived.Test.YtlomieopppndeaaGreatDoorDoc16
import Derived.Test.YtlomieopppndeaaGreatDoorPlanLaw
import Derived.Test.YtlomieopppndeaaGreatDoorFltLaw
import Derived.Test.YtlomieopppndeaaGreatDoorPlanAwake
import Derived.Test.YtlomieopppndeaaGreatDoorMatchWalk
import Derived.Test.YtlomieopppndeaaGreatDoorDoc03
/- roundelaylaw17.Of: the filter of bytes. -/
namespace Go.Proofs.YtlomieopppndeaaGreatDoor
open Go.RowKit
attribute [local go_sem] max2_int min2_int

/-- What the statements on plans read of the program's own variables. -/
structure PlG (w : World) : Prop where
  fil : FilG w
  te : TeG w
theorem PlG.below {w w' : World} (h : PlG w) (hb : Below w.heap.size w w') : PlG w' := ⟨h.fil.below hb, h.te.below hb⟩
def Of17P (w : World) (e : Ending) (w' : World) : Prop :=
  ∃ (f : Flt) (la : Option Addr) (ln lc : Nat) (fa : Option Addr) (fn fc : Nat) (sa : Option Addr) (sn sc : Nat) (is : Bool), e = .returned (.tuple #[.agg #[.int .i64 f.op, .string f.path, .int .i64 f.val.kind, .int .i64 f.val.int, .string f.val.text, .slice la ln lc, .slice fa fn fc, .slice sa sn sc], .bool is]) ∧ Below w.heap.size w w' ∧ (is = true → ∃ v, DocV 3 v ∧ parseD 11 v = .ok f ∧ (KF 11 13).R w' (fun _ => True) f [.int .i64 f.op, .string f.path, .int .i64 f.val.kind, .int .i64 f.val.int, .string f.val.text, .slice la ln lc, .slice fa fn fc, .slice sa sn sc])
theorem R_lt17 {α : Type} {K : Knd α} {w : World} {ok : Nat → Prop} {x : α} {cs : List Value} (h : K.R w ok x cs) : K.R w (fun k => k < w.heap.size) x cs := K.mono (fun _ hk => hk.2) (K.bound h)

set_option maxRecDepth 100000 in
set_option maxHeartbeats 8000000 in
theorem of17_calls (A0 : Option Addr) (n0 c0 : Nat) (ok : Nat → Prop) (w : World) (hok : ∀ k, ok k → k < w.heap.size) (b0 : Bs w ok A0 n0 c0) (G : PlG w) : Calls Tryz.prog 36 #[.slice A0 n0 c0] w (Of17P w) := by
  obtain ⟨N, hN⟩ : ∃ N : Nat, min (n0 : Int) 80 = (N : Int) := ⟨min n0 80, by omega⟩
  have hNl : N ≤ n0 := by omega
  have hrun0 := cutTo A0 n0 c0 N b0.1 b0.2.1 b0.2.2.1 hNl
  have B0 := Ap.of (b0.take hNl)
  have hn0 := b0.1
  have hc0 := b0.2.1
  have GG := Ap.of G
  have HOK := Ap.of hok
  have HB1 := Ap.of (bel_alloc w (.cells #[.int .i64 0, .string ⟨#[]⟩, .int .i64 0, .int .i64 0, .string ⟨#[]⟩, .slice none 0 0, .slice none 0 0, .slice none 0 0] 42))
  have BR1 := Ap.of (blk_new (w := w) (k := w.heap.size) (o := .cells #[.int .i64 0, .string ⟨#[]⟩, .int .i64 0, .int .i64 0, .string ⟨#[]⟩, .slice none 0 0, .slice none 0 0, .slice none 0 0] 42) rfl)
  clear G b0 hok
  go_enter Tryz.func36, Tryz.ntmps36
  go_wp2_with fail
  refine (doc16_calls 3 (by decide) (by decide) A0 N c0 _ ok (fun k hk => Nat.lt_of_lt_of_le (HOK.out k hk) HB1.out.size) (GG.out.te.below HB1.out) (B0.out.below HB1.out)).mono ?_
  rintro e w2 ⟨v, la, ln, lc, fa, fn, fc, A5, n5, c5, rfl, hv, hdv, _, hb⟩
  have hb2 := bel_step HB1.out (bel_step hb (bel_alloc w2 (.cells #[.int .i64 v.kind, .int .i64 v.int, .string v.text, .slice la ln lc, .slice fa fn fc] 28)))
  have HV := Ap.of ((KV 11).mono (ok' := fun k => w.heap.size < k ∧ k < (w2.alloc (.cells #[.int .i64 v.kind, .int .i64 v.int, .string v.text, .slice la ln lc, .slice fa fn fc] 28)).heap.size) (fun k hk => ⟨by have h1 := hk.1; simp at h1; omega, hk.2⟩) ((KV 11).bound (Knd.below hv (bel_alloc w2 (.cells #[.int .i64 v.kind, .int .i64 v.int, .string v.text, .slice la ln lc, .slice fa fn fc] 28)))))
  have HDV := Ap.of hdv
  have G2 := Ap.of (GG.out.below hb2)
  have HB2 := Ap.of hb2
  have BV := Ap.of (blk_new (w := w2) (k := w2.heap.size) (o := .cells #[.int .i64 v.kind, .int .i64 v.int, .string v.text, .slice la ln lc, .slice fa fn fc] 28) rfl)
  have BR2 := Ap.of (blk_bel (blk_bel BR1.out hb) (bel_alloc w2 (.cells #[.int .i64 v.kind, .int .i64 v.int, .string v.text, .slice la ln lc, .slice fa fn fc] 28)))
  clear hv hdv hb hb2 hrun0
  go_upto_region 2 with fail
  generalize w2.alloc (.cells #[.int .i64 v.kind, .int .i64 v.int, .string v.text, .slice la ln lc, .slice fa fn fc] 28) = U2 at *
  generalize w2.heap.size = g7 at *
  have c7 := blk_cells BV.out
  have l7 := blk_lt BV.out
  have HPX := Ap.of (filter_calls 10 11 11 v la ln lc fa fn fc (fun k => w.heap.size < k ∧ k < U2.heap.size) U2 (by decide) (by decide) (fun k hk => hk.2) (nok_doc 3 v HDV.out) G2.out.fil HV.out)
  go_wp2_with fail
  refine HPX.out.mono ?_
  rintro e w4 ⟨f, pa, pb, pc, pd, pe, pf, pg, ph, pi, er1, rfl, hR, hb, hd⟩
  have hb4 := bel_step hb (bel_alloc w4 (.cells #[.int .i64 f.op, .string f.path, .int .i64 f.val.kind, .int .i64 f.val.int, .string f.val.text, .slice pa pb pc, .slice pd pe pf, .slice pg ph pi] 42))
  have BF := Ap.of (blk_new (w := w4) (k := w4.heap.size) (o := .cells #[.int .i64 f.op, .string f.path, .int .i64 f.val.kind, .int .i64 f.val.int, .string f.val.text, .slice pa pb pc, .slice pd pe pf, .slice pg ph pi] 42) rfl)
  have BR4 := Ap.of (blk_bel BR2.out hb4)
  have HB4 := Ap.of (bel_step HB2.out hb4)
  have HR4 := Ap.of (Knd.below hR (bel_alloc w4 (.cells #[.int .i64 f.op, .string f.path, .int .i64 f.val.kind, .int .i64 f.val.int, .string f.val.text, .slice pa pb pc, .slice pd pe pf, .slice pg ph pi] 42)))
  have HER := Ap.of (show (er1 = .nilIface ∧ parseD 11 v = .ok f) ∨ ∃ p, er1 = .iface 122 p by
    rcases hd with ⟨h1, h2⟩ | ⟨_, _, g, _, _, h, _⟩
    · exact .inl ⟨h2, h1⟩
    · exact .inr ⟨_, h⟩)
  have HSU := Ap.of (show w.heap.size + 1 ≤ U2.heap.size by have := HB2.out.size; have := blk_lt BR2.out; omega)
  clear hR hb hb4 hd c7 l7 HPX BR1 BR2
  go_upto_region 3 with fail
  generalize w4.alloc (.cells #[.int .i64 f.op, .string f.path, .int .i64 f.val.kind, .int .i64 f.val.int, .string f.val.text, .slice pa pb pc, .slice pd pe pf, .slice pg ph pi] 42) = U4 at *
  generalize w4.heap.size = g8 at *
  have HRX := Ap.of (show ∀ W, Only (fun j => j = w.heap.size) U4 W → (KF 11 13).R W (fun _ => True) f [.int .i64 f.op, .string f.path, .int .i64 f.val.kind, .int .i64 f.val.int, .string f.val.text, .slice pa pb pc, .slice pd pe pf, .slice pg ph pi] from fun W hW => (KF 11 13).mono (fun _ _ => trivial) (Knd.only HR4.out hW (fun j hj he => by have := HSU.out; rcases hj with h | h <;> omega)))
  have c8 := blk_cells BF.out
  have l8 := blk_lt BF.out
  have cR := blk_cells BR4.out
  have fR := blk_free BR4.out
  have lR := blk_lt BR4.out
  have hs8 := (only8 U4 w.heap.size (.int .i64 f.op) (.string f.path) (.int .i64 f.val.kind) (.int .i64 f.val.int) (.string f.val.text) (.slice pa pb pc) (.slice pd pe pf) (.slice pg ph pi)).draw
  have HS8 := Ap.of hs8
  clear hs8
  rcases HER.out with ⟨rfl, hp⟩ | ⟨p, rfl⟩
  · have HP := Ap.of hp
    clear hp HR4
    go_region
    all_goals
      go_wp2_with fail
      exact bodyPost_ret (v := .tuple #[.agg #[.int .i64 f.op, .string f.path, .int .i64 f.val.kind, .int .i64 f.val.int, .string f.val.text, .slice pa pb pc, .slice pd pe pf, .slice pg ph pi], .bool true]) (by simp [results, Tryz.results36, go_sem, cR]) rfl
        ⟨f, pa, pb, pc, pd, pe, pf, pg, ph, pi, true, rfl, bel_only HB4.out HB4.out.size HS8.out (fun j hj => by omega), fun _ => ⟨v, HDV.out, HP.out, HRX.out _ HS8.out⟩⟩
  · clear HR4
    go_region
    all_goals
      go_wp2_with fail
      exact bodyPost_ret (v := .tuple #[.agg #[.int .i64 f.op, .string f.path, .int .i64 f.val.kind, .int .i64 f.val.int, .string f.val.text, .slice pa pb pc, .slice pd pe pf, .slice pg ph pi], .bool false]) (by simp [results, Tryz.results36, go_sem, cR]) rfl
        ⟨f, pa, pb, pc, pd, pe, pf, pg, ph, pi, false, rfl, bel_only HB4.out HB4.out.size HS8.out (fun j hj => by omega), fun h => by cases h⟩
end Go.Proofs.YtlomieopppndeaaGreatDoor
/- What is within the range of keys of a filter: plain. -/
namespace Go.Proofs.YtlomieopppndeaaGreatDoor
open Go.RowKit

theorem cmp_lt : ∀ a b : List UInt8, Lib.compareBytes a b = -1 ↔ a < b
  | [], [] => by simp [Lib.compareBytes]
  | [], _ :: _ => by simp [Lib.compareBytes]
  | _ :: _, [] => by simp [Lib.compareBytes]
  | x :: a, y :: b => by
    rw [Lib.compareBytes, List.cons_lt_cons_iff]
    by_cases h : x < y
    · simp [h]
    · rw [if_neg h]
      by_cases k : y < x
      · rw [if_pos k]
        constructor
        · intro e; cases e
        · rintro (e | ⟨rfl, e⟩)
          · exact (h e).elim
          · exact (h k).elim
      · rw [if_neg k, cmp_lt a b]
        have e : x = y := UInt8.toNat_inj.1 (by rw [UInt8.lt_iff_toNat_lt] at h k; omega)
        simp [e]
theorem cmp_zero : ∀ a b : List UInt8, Lib.compareBytes a b = 0 → a = b
  | [], [], _ => rfl
  | [], _ :: _, h => by simp [Lib.compareBytes] at h
  | _ :: _, [], h => by simp [Lib.compareBytes] at h
  | x :: a, y :: b, h => by
    rw [Lib.compareBytes] at h
    by_cases h1 : x < y
    · rw [if_pos h1] at h; cases h
    · rw [if_neg h1] at h
      by_cases k : y < x
      · rw [if_pos k] at h; cases h
      · rw [if_neg k] at h
        have e : x = y := UInt8.toNat_inj.1 (by rw [UInt8.lt_iff_toNat_lt] at h1 k; omega)
        rw [e, cmp_zero a b h]
theorem cmpI_is (a b : Int) : cmpI a b = -1 ∨ cmpI a b = 0 ∨ cmpI a b = 1 := by unfold cmpI; split <;> (try split) <;> simp
theorem compareBytes_is : ∀ a b : List UInt8, Lib.compareBytes a b = -1 ∨ Lib.compareBytes a b = 0 ∨ Lib.compareBytes a b = 1
  | [], [] => .inr (.inl rfl)
  | [], _ :: _ => .inl rfl
  | _ :: _, [] => .inr (.inr rfl)
  | x :: a, y :: b => by
    rw [Lib.compareBytes]
    split
    · exact .inl rfl
    · split
      · exact .inr (.inr rfl)
      · exact compareBytes_is a b
def inB (k : ByteArray) (fr tl : ByteArray) : Bool := !decide (ltA k fr) && (decide (tl = ⟨#[]⟩) || decide (ltA k tl))
theorem inB_both (k : ByteArray) (s t : Bnd) : inB k (bothB s t).1 (bothB s t).2.1 = (inB k s.1 s.2.1 && inB k t.1 t.2.1) := by
  have h1 : decide (ltA k (maxA s.1 t.1)) = (decide (ltA k s.1) || decide (ltA k t.1)) := by
    unfold maxA pickR
    by_cases h : ltA s.1 t.1
    · rw [if_pos h]
      by_cases h2 : ltA k t.1
      · simp [h2]
      · have : ¬ ltA k s.1 := fun e => h2 (ltA_trans e h)
        simp [h2, this]
    · rw [if_neg h]
      by_cases h2 : ltA k s.1
      · simp [h2]
      · have : ¬ ltA k t.1 := nlt_trans h2 h
        simp [h2, this]
  have h2 : (decide (toA s.2.1 t.2.1 = ⟨#[]⟩) || decide (ltA k (toA s.2.1 t.2.1))) = ((decide (s.2.1 = ⟨#[]⟩) || decide (ltA k s.2.1)) && (decide (t.2.1 = ⟨#[]⟩) || decide (ltA k t.2.1))) := by
    unfold toA pickR
    by_cases h : ltT t.2.1 s.2.1
    · rw [if_pos h]
      by_cases h3 : ltA k t.2.1
      · have : s.2.1 = ⟨#[]⟩ ∨ ltA k s.2.1 := h.2.elim .inl (fun e => .inr (ltA_trans h3 e))
        rcases this with e | e <;> simp [h3, e]
      · simp [h3, h.1]
    · rw [if_neg h]
      by_cases h4 : t.2.1 = ⟨#[]⟩
      · simp [h4]
      · have hs : s.2.1 ≠ ⟨#[]⟩ := fun e => h ⟨h4, .inl e⟩
        have hl : ¬ ltA t.2.1 s.2.1 := fun e => h ⟨h4, .inr e⟩
        by_cases h5 : ltA k s.2.1
        · have : ltA k t.2.1 := by
            rcases ltA_tri s.2.1 t.2.1 with e | e | e
            · exact ltA_trans h5 e
            · rw [← e]; exact h5
            · exact (hl e).elim
          simp [h5, this]
        · simp [h5, hs]
  unfold inB
  show (!decide (ltA k (maxA s.1 t.1)) && (decide (toA s.2.1 t.2.1 = ⟨#[]⟩) || decide (ltA k (toA s.2.1 t.2.1)))) = _
  rw [h1, h2]
  cases decide (ltA k s.1) <;> cases decide (ltA k t.1) <;> simp
theorem inB_bnd0 (k : ByteArray) : inB k bnd0.1 bnd0.2.1 = true := by
  unfold inB bnd0
  simp [nlt_empty]

section
variable {dv : Nat} {x v : Val}
theorem key_cmp (hx : KeyOk dv x) (hv : KeyOk dv v) (s : List UInt8) : Lib.compareBytes (keyL dv x) (keyL dv v ++ s) = if cmpD dv x v = 0 then Lib.compareBytes [] s else cmpD dv x v := by
  have h := key_ord dv x v hx hv [] s
  rwa [List.append_nil] at h
theorem cmpD_is (hx : KeyOk dv x) (hv : KeyOk dv v) : cmpD dv x v = -1 ∨ cmpD dv x v = 0 ∨ cmpD dv x v = 1 := by
  by_cases h : cmpD dv x v = 0
  · exact .inr (.inl h)
  · have := key_cmp hx hv []
    rw [if_neg h] at this
    rw [← this]
    exact compareBytes_is _ _
theorem keyB_list (v : Val) : (keyB dv v).data.toList = keyL dv v := rfl
theorem endB_list (v : Val) : (endB (keyB dv v)).data.toList = keyL dv v ++ [0] := by
  unfold endB
  rw [ByteArray.data_append]
  simp [keyB]
theorem lt_key (hx : KeyOk dv x) (hv : KeyOk dv v) : ltA (keyB dv x) (keyB dv v) ↔ cmpD dv x v = -1 := by
  have h := key_cmp hx hv []
  rw [List.append_nil] at h
  unfold ltA
  rw [keyB_list, keyB_list, ← cmp_lt, h]
  rcases cmpD_is hx hv with e | e | e <;> simp [e, Lib.compareBytes]
theorem lt_end (hx : KeyOk dv x) (hv : KeyOk dv v) : ltA (keyB dv x) (endB (keyB dv v)) ↔ cmpD dv x v = -1 ∨ cmpD dv x v = 0 := by
  have h := key_cmp hx hv [0]
  unfold ltA
  rw [keyB_list, endB_list, ← cmp_lt, h]
  rcases cmpD_is hx hv with e | e | e <;> simp [e, Lib.compareBytes]
theorem key_ne (hv : KeyOk dv v) : keyB dv v ≠ ⟨#[]⟩ := by
  obtain ⟨k, r, e, _⟩ := key_head hv
  intro h
  have := keyB_list (dv := dv) v
  rw [h, e] at this
  cases this
theorem end_ne (_hv : KeyOk dv v) : endB (keyB dv v) ≠ ⟨#[]⟩ := by
  intro h
  have := endB_list (dv := dv) v
  rw [h] at this
  have := congrArg List.length this
  simp at this
/-- One condition: its keys are those of values that meet it. -/
theorem bound_in (op : Int) (p : ByteArray) (ss : List Flt) (hx : KeyOk dv x) (hv : KeyOk dv v) (b : Bool) (hop : op = 2 ∨ op = 4 ∨ op = 5 ∨ op = 6 ∨ op = 7) :
    inB (keyB dv x) (boundF dv (.mk op p v ss)).1 (boundF dv (.mk op p v ss)).2.1 = oneK op (cmpD dv x v) b := by
  have h1 := lt_key hx hv
  have h2 := lt_end hx hv
  have n1 := key_ne hv
  have n2 := end_ne hv
  rcases hop with rfl | rfl | rfl | rfl | rfl <;> rcases cmpD_is hx hv with e | e | e <;> simp [inB, boundF, Flt.op, Flt.val, oneK, h1, h2, n1, n2, e, nlt_empty]
end

theorem conds_match (dv : Nat) (doc : Val) : ∀ (D : Nat) (f : Flt), matchD dv D f doc = true → ∀ c ∈ condsD D f, 2 ≤ c.op → condD dv c doc = true
  | 0, _, h, _, _, _ => by cases h
  | D + 1, f, h, c, hc, h2 => by
    unfold condsD at hc
    by_cases h0 : f.op = 0
    · rw [if_pos h0] at hc
      rw [matchD, if_pos h0] at h
      obtain ⟨s, hs, hc⟩ := List.mem_flatMap.1 hc
      exact conds_match dv doc D s (List.all_eq_true.1 h s hs) c hc h2
    · rw [if_neg h0] at hc
      obtain rfl := List.mem_singleton.1 hc
      rwa [matchD, if_neg h0, if_neg (by omega)] at h
theorem foldB_cons (dv : Nat) (p : ByteArray) (c : Flt) (l : List Flt) : foldB dv p (c :: l) = bothB (oneB dv p c) (foldB dv p l) := by
  have := foldB_append dv p [c] l
  rw [List.singleton_append] at this
  rw [this]
  unfold foldB
  rw [List.foldl_cons, List.foldl_nil, bothB_e]
theorem fold_any (dv : Nat) (p : ByteArray) : ∀ l : List Flt, ((foldB dv p l).2.2.1 = true → (foldB dv p l).2.2.2 = true) ∧ ((foldB dv p l).2.2.2 = false → (foldB dv p l).1 = ⟨#[]⟩ ∧ (foldB dv p l).2.1 = ⟨#[]⟩)
  | [] => ⟨(fun h => by cases h), fun _ => ⟨rfl, rfl⟩⟩
  | c :: l => by
    obtain ⟨h1, h2⟩ := fold_any dv p l
    have h3 : ((oneB dv p c).2.2.1 = true → (oneB dv p c).2.2.2 = true) ∧ ((oneB dv p c).2.2.2 = false → (oneB dv p c).1 = ⟨#[]⟩ ∧ (oneB dv p c).2.1 = ⟨#[]⟩) := by
      unfold oneB
      split
      · unfold boundF
        by_cases e2 : c.op = 2
        · simp [e2]
        · by_cases e4 : c.op = 4
          · simp [e4]
          · by_cases e5 : c.op = 5
            · simp [e5]
            · by_cases e6 : c.op = 6
              · simp [e6]
              · by_cases e7 : c.op = 7
                · simp [e7]
                · simp [e2, e4, e5, e6, e7]
      · exact ⟨(fun h => by cases h), fun _ => ⟨rfl, rfl⟩⟩
    rw [foldB_cons]
    constructor
    · intro h
      show ((oneB dv p c).2.2.2 || (foldB dv p l).2.2.2) = true
      rcases Bool.or_eq_true_iff.1 (show ((oneB dv p c).2.2.1 || (foldB dv p l).2.2.1) = true from h) with e | e
      · rw [h3.1 e]; rfl
      · rw [h1 e, Bool.or_true]
    · intro h
      obtain ⟨a, b⟩ := Bool.or_eq_false_iff.1 (show ((oneB dv p c).2.2.2 || (foldB dv p l).2.2.2) = false from h)
      obtain ⟨a1, a2⟩ := h3.2 a
      obtain ⟨b1, b2⟩ := h2 b
      exact ⟨by show maxA (oneB dv p c).1 (foldB dv p l).1 = _; rw [a1, b1, maxA_e], by show toA (oneB dv p c).2.1 (foldB dv p l).2.1 = _; rw [a2, b2, toA_e]⟩
theorem fold_sound (dv : Nat) (p : ByteArray) (doc : Val) (hd : ∀ x, foundV doc p = some x → KeyOk dv x) : ∀ l : List Flt, (∀ c ∈ l, KeyOk dv c.val) → (∀ c ∈ l, 2 ≤ c.op → condD dv c doc = true) →
    ((foldB dv p l).2.2.2 = true → (foundV doc p).isSome = true) ∧ ∀ x, foundV doc p = some x → inB (keyB dv x) (foldB dv p l).1 (foldB dv p l).2.1 = true
  | [], _, _ => ⟨(fun h => by cases h), fun x _ => inB_bnd0 _⟩
  | c :: l, hk, hc => by
    obtain ⟨h1, h2⟩ := fold_sound dv p doc hd l (fun c h => hk c (List.mem_cons_of_mem _ h)) (fun c h => hc c (List.mem_cons_of_mem _ h))
    have h3 : ((oneB dv p c).2.2.2 = true → (foundV doc p).isSome = true) ∧ ∀ x, foundV doc p = some x → inB (keyB dv x) (oneB dv p c).1 (oneB dv p c).2.1 = true := by
      unfold oneB
      split
      · rename_i h
        have hm := hc c (List.mem_cons_self ..) h.2
        have hv := hk c (List.mem_cons_self ..)
        unfold condD at hm
        rw [h.1] at hm
        by_cases ho : c.op = 2 ∨ c.op = 4 ∨ c.op = 5 ∨ c.op = 6 ∨ c.op = 7
        · have h9 : c.op ≠ 9 := by omega
          have h33 : (c.op == 3) = false := by simp; omega
          unfold condK at hm
          rw [if_neg h9] at hm
          cases hf : foundV doc p with
          | none => rw [hf] at hm; exact absurd hm (by simp [h33])
          | some y =>
            rw [hf] at hm
            refine ⟨fun _ => rfl, fun x hx => ?_⟩
            injection hx with hx
            subst hx
            have hb := bound_in (dv := dv) (x := y) (v := c.val) c.op c.path c.subs (hd y hf) hv (c.val.list.any (fun z => cmpD dv y z == 0)) ho
            rw [show Flt.mk c.op c.path c.val c.subs = c by cases c; rfl] at hb
            exact hb.trans hm
        · have hb : boundF dv c = (⟨#[]⟩, ⟨#[]⟩, false) := by
            unfold boundF
            rw [if_neg (by omega), if_neg (by omega), if_neg (by omega), if_neg (by omega), if_neg (by omega)]
          rw [hb]
          exact ⟨(fun h => by cases h), fun x _ => inB_bnd0 _⟩
      · exact ⟨(fun h => by cases h), fun x _ => inB_bnd0 _⟩
    rw [foldB_cons]
    constructor
    · intro h
      rcases Bool.or_eq_true_iff.1 (show ((oneB dv p c).2.2.2 || (foldB dv p l).2.2.2) = true from h) with e | e
      · exact h3.1 e
      · exact h1 e
    · intro x hx
      rw [inB_both, h3.2 x hx, h2 x hx]
      rfl
end Go.Proofs.YtlomieopppndeaaGreatDoor
/- What the statements on plans read of the program's own variables. -/
namespace Go.Proofs.YtlomieopppndeaaGreatDoor
open Go.RowKit

def pathsOf : List ByteArray := [⟨#[97]⟩, ⟨#[97, 46, 98]⟩, ⟨#[98]⟩, ⟨#[99, 46, 48]⟩, ⟨#[110]⟩, ⟨#[120]⟩]
structure PbG (w : World) : Prop where
  pl : PlG w
  pa : ∀ (j : Nat) (s : ByteArray), pathsOf[j]? = some s → w.cell? ⟨0, j, none⟩ = some (.string s)
theorem PbG.below {w w' : World} (h : PbG w) (hb : Below w.heap.size w w') : PbG w' :=
  ⟨h.pl.below hb, fun j s hj => (World.cell?_of_block (w := w) (hb.block 0 (Nat.lt_of_lt_of_le (by decide) h.pl.fil.par.lo))).trans (h.pa j s hj)⟩
end Go.Proofs.YtlomieopppndeaaGreatDoor
/- PlanSound's walk: what meets a filter has its key within the bounds. -/
namespace Go.Proofs.YtlomieopppndeaaGreatDoor
open Go.RowKit

theorem GoodV_down {d : Nat} {x : Val} (h : GoodV d x) {k : Nat} (hk : d ≤ k) : GoodV k x := by
  obtain ⟨j, rfl⟩ : ∃ j, k = d + j := ⟨k - d, by omega⟩
  clear hk
  induction j with
  | zero => exact h
  | succ j ih => exact GoodV_up _ x ih
theorem step_good {d : Nat} {x y : Val} {p : ByteArray} (h : GoodV (d + 1) x) (hs : x.step p = some y) : GoodV d y := by
  unfold Val.step at hs
  split at hs
  · obtain ⟨k, _, hk⟩ := Option.bind_eq_some_iff.1 hs
    exact h.2.2.2.2.2.1 y (List.mem_of_getElem? hk)
  · unfold Val.get at hs
    split at hs
    · obtain ⟨f, hf, rfl⟩ := Option.map_eq_some_iff.1 hs
      exact h.2.2.2.2.2.2.2.1 f (List.mem_of_find?_eq_some hf)
    · cases hs
theorem find_good : ∀ (l : List ByteArray) (d : Nat) (x y : Val), GoodV d x → x.find l = some y → GoodV d y
  | [], d, x, y, h, hs => by
    injection hs with hs
    subst hs
    exact h
  | p :: r, 0, x, y, h, hs => h.elim
  | p :: r, d + 1, x, y, h, hs => by
    obtain ⟨z, hz, hs⟩ := Option.bind_eq_some_iff.1 hs
    exact GoodV_up d y (find_good r d z y (step_good h hz) hs)
theorem in_calls (k fr tl : ByteArray) (id : Int) (dn : Bool) (w : World) : Calls Tryz.prog 23 #[.agg #[.string k, .int .i64 id], .agg #[.string fr, .string tl, .bool dn]] w fun e w' => e = .returned (.bool (inB k fr tl)) ∧ Below w.heap.size w w' := by
  obtain ⟨res, hres⟩ : ∃ r, r = inB k fr tl := ⟨_, rfl⟩
  rw [← hres]
  have HR := Ap.of hres
  clear hres
  have hb := bel_step (bel_alloc w (.cells #[.string k, .int .i64 id] 50)) (bel_alloc _ (.cells #[.string fr, .string tl, .bool dn] 44))
  have HB := Ap.of hb
  clear hb
  have h1 : (Op.bytesLess k.toList fr.toList = true ∧ ltA k fr) ∨ (Op.bytesLess k.toList fr.toList = false ∧ ¬ ltA k fr) := by
    rw [less_eq]
    by_cases h : ltA k fr
    · exact .inl ⟨by simpa using h, h⟩
    · exact .inr ⟨by simpa using h, h⟩
  have h2 : (tl = ⟨#[]⟩) ∨ ((tl.toList == []) = false ∧ ¬ tl.toList = [] ∧ tl ≠ ⟨#[]⟩ ∧ ((Op.bytesLess k.toList tl.toList = true ∧ ltA k tl) ∨ (Op.bytesLess k.toList tl.toList = false ∧ ¬ ltA k tl))) := by
    by_cases h : tl = ⟨#[]⟩
    · exact .inl h
    · have hn : ¬ tl.toList = [] := fun e => h ((tl_nil tl).1 e)
      refine .inr ⟨by simpa using hn, hn, h, ?_⟩
      rw [less_eq]
      by_cases h : ltA k tl
      · exact .inl ⟨by simpa using h, h⟩
      · exact .inr ⟨by simpa using h, h⟩
  rcases h1 with ⟨e1, l1⟩ | ⟨e1, l1⟩
  · have HE := Ap.of (show res = false by rw [HR.out]; unfold inB; simp [l1])
    clear HR l1 h2
    go_enter Tryz.func23, Tryz.ntmps23
    go_wp2_with fail
    go_ret
    exact ⟨by rw [HE.out]; rfl, HB.out⟩
  · rcases h2 with rfl | ⟨e2, e3, n2, ⟨e4, l2⟩ | ⟨e4, l2⟩⟩
    · have HE := Ap.of (show res = true by rw [HR.out]; unfold inB; simp [l1])
      clear HR l1
      go_enter Tryz.func23, Tryz.ntmps23
      go_wp2_with fail
      go_ret
      exact ⟨by rw [HE.out]; rfl, HB.out⟩
    · have HE := Ap.of (show res = true by rw [HR.out]; unfold inB; simp [l1, l2])
      clear HR l1 l2 n2
      go_enter Tryz.func23, Tryz.ntmps23
      go_wp2_with fail
      go_ret
      exact ⟨by rw [HE.out]; rfl, HB.out⟩
    · have HE := Ap.of (show res = false by rw [HR.out]; unfold inB; simp [l1, l2, n2])
      clear HR l1 l2 n2
      go_enter Tryz.func23, Tryz.ntmps23
      go_wp2_with fail
      go_ret
      exact ⟨by rw [HE.out]; rfl, HB.out⟩
def IdxP (o : Option Val) (w : World) (e : Ending) (w' : World) : Prop := e = .returned (.tuple #[.string ((o.map (keyB 11)).getD ⟨#[]⟩), .bool o.isSome]) ∧ Below w.heap.size w w'
set_option maxRecDepth 100000 in
set_option maxHeartbeats 4000000 in
theorem ikey_calls (x : Val) (la2 : Option Addr) (ln2 lc2 : Nat) (fa2 : Option Addr) (fn2 fc2 : Nat) (nm p : ByteArray) (un : Bool) (hp : p.size ≤ 16) (hok : pathOk p = true) (hg : GoodV 4 x) (w : World) (G : ParG w) (F : FinG w) (hx : (KV 11).R w (fun _ => True) x [.int .i64 x.kind, .int .i64 x.int, .string x.text, .slice la2 ln2 lc2, .slice fa2 fn2 fc2]) :
    Calls Tryz.prog 37 #[.agg #[.string nm, .string p, .bool un], .agg #[.int .i64 x.kind, .int .i64 x.int, .string x.text, .slice la2 ln2 lc2, .slice fa2 fn2 fc2]] w (IdxP (foundV x p) w) := by
  have hb2 := bel_step (bel_alloc w (.cells #[.string nm, .string p, .bool un] 75)) (bel_alloc _ (.cells #[.int .i64 x.kind, .int .i64 x.int, .string x.text, .slice la2 ln2 lc2, .slice fa2 fn2 fc2] 28))
  have HPA := Ap.of (parse_callsP p _ (by omega) (G.below hb2))
  have HB2 := Ap.of hb2
  have HX := Ap.of hx
  have GG := Ap.of (And.intro G F)
  have HG := Ap.of hg
  have HOK := Ap.of hok
  have HBX := Ap.of (blk_new (w := w.alloc (.cells #[.string nm, .string p, .bool un] 75)) (k := w.heap.size + 1) (o := .cells #[.int .i64 x.kind, .int .i64 x.int, .string x.text, .slice la2 ln2 lc2, .slice fa2 fn2 fc2] 28) (by simp))
  have HFV := Ap.of (show foundV x p = x.find (partsOf p) from if_pos hok)
  clear hb2 hx G F hg hok hp
  obtain ⟨o, ho⟩ : ∃ o, o = foundV x p := ⟨_, rfl⟩
  rw [← ho]
  rw [← ho] at HFV
  have HO := Ap.of ho
  clear ho
  unfold IdxP
  go_enter Tryz.func37, Tryz.ntmps37
  go_wp2_with fail
  refine HPA.out.mono ?_
  rintro e w1 (⟨hok, g, rfl, hg, hs, hb⟩ | ⟨hok, g, rfl, hE, hb⟩)
  · have HB1 := Ap.of (bel_step HB2.out hb)
    have bx1 := blk_bel HBX.out hb
    have HFI := Ap.of (find_calls 9 x la2 ln2 lc2 fa2 fn2 fc2 (some ⟨g, 0, none⟩) (partsOf p).length (partsOf p).length (partsOf p) (fun _ => True) w1 (GG.out.2.below HB1.out) (Few.of_good HG.out) (hs.row trivial (pathOk_parts hok).1 (pathOk_parts hok).2) (Knd.below HX.out HB1.out))
    have dx := blk_cells bx1
    have lx := blk_lt bx1
    clear hok hg hs hb bx1
    generalize hpl : (partsOf p).length = pn at *
    go_wp2_with fail
    refine HFI.out.mono ?_
    rintro e w2 ⟨y, l5, m5, c5, g5, f5, h5, rfl, hy, hr, hb⟩
    rw [← HFV.out] at hy
    have hba := bel_alloc w2 (.cells #[.int .i64 y.kind, .int .i64 y.int, .string y.text, .slice l5 m5 c5, .slice g5 f5 h5] 28)
    have HY := Ap.of hy
    have HRY := Ap.of (Knd.below hr hba)
    have HB3 := Ap.of (bel_step HB1.out (bel_step hb hba))
    have BY := Ap.of (blk_new (w := w2) (k := w2.heap.size) (o := .cells #[.int .i64 y.kind, .int .i64 y.int, .string y.text, .slice l5 m5 c5, .slice g5 f5 h5] 28) rfl)
    have HFV2 := Ap.of (show x.find (partsOf p) = o from HFV.out.symm)
    clear hy hr hb hba dx lx
    rw [HFV2.out]
    cases o with
    | none =>
      go_wp2_with fail
      exact bodyPost_ret (v := .tuple #[.string ⟨#[]⟩, .bool false]) (by simp [results, Tryz.results37, go_sem]) rfl ⟨rfl, HB3.out⟩
    | some z =>
      have hyz : y = z := HY.out
      subst hyz
      have HGZ := Ap.of (GoodV_down (find_good _ 4 x y HG.out HFV2.out) (by decide : 4 ≤ 5))
      go_upto_region 5 with fail
      generalize w2.alloc (.cells #[.int .i64 y.kind, .int .i64 y.int, .string y.text, .slice l5 m5 c5, .slice g5 f5 h5] 28) = U at *
      generalize w2.heap.size = g8 at *
      have cy := blk_cells BY.out
      have ly := blk_lt BY.out
      have HPU := Ap.of (put_calls 5 11 11 y l5 m5 c5 g5 f5 h5 U (by decide) (by decide) (Nat.le_refl _) HGZ.out (GG.out.1.below HB3.out) HRY.out)
      unfold PutP at HPU
      go_wp2_with fail
      refine HPU.out.mono ?_
      rintro e w4 ⟨rfl, hb⟩
      have HB4 := Ap.of (bel_step HB3.out hb)
      clear hb
      go_wp2_with fail
      exact bodyPost_ret (v := .tuple #[.string (keyB 11 y), .bool true]) (by simp [results, Tryz.results37, go_sem]) rfl ⟨rfl, HB4.out⟩
  · rw [HOK.out] at hok
    cases hok
theorem paths_ok {p : ByteArray} (h : p ∈ pathsOf) : p.size ≤ 16 ∧ pathOk p = true := by
  simp only [pathsOf, List.mem_cons, List.not_mem_nil, or_false] at h
  rcases h with rfl | rfl | rfl | rfl | rfl | rfl <;> exact ⟨by decide, by decide +kernel⟩
theorem gdRangeN (x y : Operand) (xs ys : Array Value) (w : World) : (eqGuard .neq 44 x y (.agg xs) (.agg ys)).run Tryz.prog w = .ok () w := run_eqGuard_agg w .neq 44 x y xs ys (by kernel_rfl)
structure PsG (w : World) : Prop where
  pb : PbG w
  fin : FinG w
theorem PsG.below {w w' : World} (h : PsG w) (hb : Below w.heap.size w w') : PsG w' := ⟨h.pb.below hb, h.fin.below hb⟩
/-- The law. -/
theorem sound_law (f : Flt) (doc : Val) (p : ByteArray) (hc : ∀ c ∈ condsD 13 f, CondV c) (hg : GoodV 4 doc) :
    ((boundsD 11 13 f p).2.2.2 = false → (boundsD 11 13 f p).2.2.1 = false ∧ (boundsD 11 13 f p).1 = ⟨#[]⟩ ∧ (boundsD 11 13 f p).2.1 = ⟨#[]⟩) ∧
    (matchD 11 13 f doc = true → (boundsD 11 13 f p).2.2.2 = true → ∃ x, foundV doc p = some x ∧ inB (keyB 11 x) (boundsD 11 13 f p).1 (boundsD 11 13 f p).2.1 = true) := by
  have h := fold_any 11 p (condsD 13 f)
  refine ⟨fun hn => ⟨?_, h.2 hn⟩, fun hm ha => ?_⟩
  · cases he : (boundsD 11 13 f p).2.2.1 with
    | false => rfl
    | true =>
      have h1 : (boundsD 11 13 f p).2.2.2 = true := h.1 he
      rw [h1] at hn
      cases hn
  · have hgx : ∀ x, foundV doc p = some x → KeyOk 11 x := fun x hx => by
      unfold foundV at hx
      split at hx
      · exact KeyOk_le (by decide : 4 ≤ 11) (KeyOk.of_good 4 x (find_good _ 4 doc x hg hx))
      · cases hx
    have hs := fold_sound 11 p doc hgx (condsD 13 f) (fun c hcm => KeyOk_le (by decide : 5 ≤ 11) (KeyOk.of_good 5 _ (hc c hcm).1)) (conds_match 11 doc 13 f hm)
    obtain ⟨x, hx⟩ := Option.isSome_iff_exists.1 (hs.1 ha)
    exact ⟨x, hx, hs.2 x hx⟩
set_option maxRecDepth 100000 in
set_option maxHeartbeats 16000000 in
theorem plansound_calls (A0 : Option Addr) (n0 c0 : Nat) (A1 : Option Addr) (n1 c1 : Nat) (at_ : Int) (w : World) (b0 : Bs w (fun k => k < w.heap.size) A0 n0 c0) (b1 : Bs w (fun k => k < w.heap.size) A1 n1 c1) (ba : 0 ≤ at_ ∧ at_ ≤ 255) (G : PsG w) :
    Calls Tryz.prog 11 #[.slice A0 n0 c0, .slice A1 n1 c1, .int .u8 at_] w fun e w' => e = .returned (.bool true) ∧ Below w.heap.size w w' := by
  obtain ⟨K, hK, hK6⟩ : ∃ K : Nat, at_ % 6 = (K : Int) ∧ K < 6 := ⟨(at_ % 6).toNat, by omega, by omega⟩
  have hKb : (K : Int) < 6 := by omega
  obtain ⟨p, hp⟩ : ∃ p, pathsOf[K]? = some p := ⟨_, List.getElem?_eq_getElem (by have : pathsOf.length = 6 := rfl; omega)⟩
  have HP := Ap.of hp
  have HPO := Ap.of (paths_ok (List.mem_of_getElem? hp))
  have B0 := Ap.of b0
  have B1 := Ap.of b1
  have GG := Ap.of G
  have h255 := ba.2
  have h00 := ba.1
  clear b0 b1 G hp ba
  go_enter Tryz.func11, Tryz.ntmps11
  go_wp2_with fail
  refine (pawake_calls w GG.out.pb.pl.fil.par).mono ?_
  rintro e w1 ⟨rfl, hb⟩
  have HB1 := Ap.of hb
  have G1 := Ap.of (GG.out.below hb)
  clear hb
  go_wp2_with fail
  refine (of17_calls A0 n0 c0 _ w1 (fun k hk => Nat.lt_of_lt_of_le hk HB1.out.size) (B0.out.below HB1.out) G1.out.pb.pl).mono ?_
  rintro e w2 ⟨f, la, ln, lc, fa, fn, fc, sa, sn, sc, is, rfl, hb, hok⟩
  have hbU := bel_step hb (bel_alloc w2 (.cells #[.int .i64 f.op, .string f.path, .int .i64 f.val.kind, .int .i64 f.val.int, .string f.val.text, .slice la ln lc, .slice fa fn fc, .slice sa sn sc] 42))
  have HBU := Ap.of (bel_step HB1.out hbU)
  have GU := Ap.of (G1.out.below hbU)
  have BF := Ap.of (blk_new (w := w2) (k := w2.heap.size) (o := .cells #[.int .i64 f.op, .string f.path, .int .i64 f.val.kind, .int .i64 f.val.int, .string f.val.text, .slice la ln lc, .slice fa fn fc, .slice sa sn sc] 42) rfl)
  have HOK := Ap.of hok
  clear hb hok hbU
  cases is with
  | false =>
    go_wp2_with fail
    go_ret
    exact ⟨rfl, HBU.out⟩
  | true =>
    obtain ⟨v, hdv, hpv, hR⟩ := HOK.out rfl
    have HR := Ap.of (Knd.below hR (bel_alloc w2 (.cells #[.int .i64 f.op, .string f.path, .int .i64 f.val.kind, .int .i64 f.val.int, .string f.val.text, .slice la ln lc, .slice fa fn fc, .slice sa sn sc] 42)))
    have HS := Ap.of (SubsN_le (by decide : 9 ≤ 13) (doc_subs 3 11 v f hdv hpv))
    have HC := Ap.of (doc_conds 3 11 v f hdv hpv 13)
    have HFO := Ap.of ((parse_fok 11).1 11 v f (nok_doc 3 v hdv) hpv)
    clear hdv hpv hR HOK
    go_upto_region 6 with fail
    generalize w2.alloc (.cells #[.int .i64 f.op, .string f.path, .int .i64 f.val.kind, .int .i64 f.val.int, .string f.val.text, .slice la ln lc, .slice fa fn fc, .slice sa sn sc] 42) = U at *
    generalize w2.heap.size = g7 at *
    have cp := GU.out.pb.pa K p HP.out
    have lp := World.block_lt_of_cell? _ _ cp
    go_wp2_with fail
    refine (doc_calls A1 n1 c1 U _ (fun k hk => Nat.lt_of_lt_of_le hk HBU.out.size) GU.out.pb.pl.te.laid (B1.out.below HBU.out)).mono ?_
    rintro e w3 ⟨doc, la2, ln2, lc2, fa2, fn2, fc2, rfl, hd, hgd, hb⟩
    have hb3 := bel_step hb (bel_alloc w3 (.cells #[.int .i64 doc.kind, .int .i64 doc.int, .string doc.text, .slice la2 ln2 lc2, .slice fa2 fn2 fc2] 28))
    have HD := Ap.of (KV_le (by decide : 4 ≤ 11) _ _ _ _ ((KV 4).mono (ok' := fun _ => True) (fun _ _ => trivial) (Knd.below hd (bel_alloc w3 (.cells #[.int .i64 doc.kind, .int .i64 doc.int, .string doc.text, .slice la2 ln2 lc2, .slice fa2 fn2 fc2] 28)))))
    have BD := Ap.of (blk_new (w := w3) (k := w3.heap.size) (o := .cells #[.int .i64 doc.kind, .int .i64 doc.int, .string doc.text, .slice la2 ln2 lc2, .slice fa2 fn2 fc2] 28) rfl)
    have HGD := Ap.of hgd
    have BF3 := Ap.of (blk_bel BF.out hb3)
    have HR3 := Ap.of (Knd.below HR.out hb3)
    have G3 := Ap.of (GU.out.below hb3)
    have HB3 := Ap.of (bel_step HBU.out hb3)
    clear hd hgd hb hb3 BF HR cp lp
    go_upto_region 8 with fail
    generalize w3.alloc (.cells #[.int .i64 doc.kind, .int .i64 doc.int, .string doc.text, .slice la2 ln2 lc2, .slice fa2 fn2 fc2] 28) = V at *
    generalize w3.heap.size = g10 at *
    have HLAW := Ap.of (sound_law f doc p HC.out HGD.out)
    have cf := blk_cells BF3.out
    have lf := blk_lt BF3.out
    have HB := Ap.of (bounds_calls 13 11 f la ln lc fa fn fc sa sn sc p V (by decide) (by decide) HS.out HC.out G3.out.pb.pl.fil.par HR3.out)
    have HIK := Ap.of (fun W (hW : Below V.heap.size V W) => ikey_calls doc la2 ln2 lc2 fa2 fn2 fc2 ⟨#[]⟩ p false HPO.out.1 HPO.out.2 HGD.out W (G3.out.below hW).pb.pl.fil.par (G3.out.below hW).fin (Knd.below HD.out hW))
    have HMT := Ap.of (fun W (hW : Below V.heap.size V W) => match_calls 9 13 f la ln lc fa fn fc sa sn sc doc la2 ln2 lc2 fa2 fn2 fc2 4 W (Few.of_good HGD.out) HFO.out (G3.out.below hW).pb.pl.fil.par (G3.out.below hW).fin (Knd.below HR3.out hW) (Knd.below HD.out hW))
    unfold BndP at HB
    unfold IdxP at HIK
    obtain ⟨ko, hko⟩ : ∃ k, k = ((foundV doc p).map (keyB 11)).getD ⟨#[]⟩ := ⟨_, rfl⟩
    obtain ⟨oo, hoo⟩ : ∃ q, q = (foundV doc p).isSome := ⟨_, rfl⟩
    rw [← hko, ← hoo] at HIK
    have HL2 := Ap.of (show ((boundsD 11 13 f p).2.2.2 = false → (boundsD 11 13 f p).2.2.1 = false ∧ (boundsD 11 13 f p).1 = ⟨#[]⟩ ∧ (boundsD 11 13 f p).2.1 = ⟨#[]⟩) ∧
        (matchD 11 13 f doc = true → (boundsD 11 13 f p).2.2.2 = true → oo = true ∧ inB ko (boundsD 11 13 f p).1 (boundsD 11 13 f p).2.1 = true) from ⟨HLAW.out.1, fun h1 h2 => by
      obtain ⟨x, hx, hi⟩ := HLAW.out.2 h1 h2
      rw [hoo, hko, hx]
      exact ⟨rfl, hi⟩⟩)
    clear hko hoo HLAW
    generalize boundsD 11 13 f p = b at *
    generalize matchD 11 13 f doc = m at *
    obtain ⟨b1, b2, b3, b4⟩ := b
    go_wp2_with fail
    refine HB.out.mono ?_
    rintro e w5 ⟨rfl, hb⟩
    have hb5 := bel_step hb (bel_alloc w5 (.cells #[.string b1, .string b2, .bool false] 44))
    have BR := Ap.of (blk_new (w := w5) (k := w5.heap.size) (o := .cells #[.string b1, .string b2, .bool false] 44) rfl)
    have bd5 := blk_bel BD.out hb
    have cd5 := blk_cells bd5
    have ld5 := blk_lt bd5
    have HIK5 := Ap.of (HIK.out _ hb5)
    have HB5 := Ap.of hb5
    clear hb hb5 bd5 cf lf HB HIK
    go_wp2_with fail
    refine HIK5.out.mono ?_
    rintro e w7 ⟨rfl, hb⟩
    have HB7 := Ap.of (bel_step HB5.out hb)
    have br7 := blk_bel BR.out hb
    have bf7 := blk_bel BF3.out HB7.out
    have bd7 := blk_bel BD.out HB7.out
    have BR7 := Ap.of br7
    have cr7 := blk_cells br7
    have lr7 := blk_lt br7
    have cf7 := blk_cells bf7
    have lf7 := blk_lt bf7
    have cd7 := blk_cells bd7
    have ld7 := blk_lt bd7
    have HMT7 := Ap.of (HMT.out w7 HB7.out)
    clear hb br7 bf7 bd7 cd5 ld5 HMT HIK5
    have hg := gdRangeN
    generalize w5.heap.size = g11 at *
    cases b4 with
    | false =>
      obtain ⟨rfl, rfl, rfl⟩ := HL2.out.1 rfl
      have hq : ∀ w, (Op.equalIn 10000 44 (.agg #[.string ⟨#[]⟩, .string ⟨#[]⟩, .bool false]) (.agg #[.string ⟨#[]⟩, .string ⟨#[]⟩, .bool false])).run Tryz.prog w = .ok true w := fun w => by rw [eqRange]; rfl
      clear HL2
      go_wp2_with fail
      refine HMT7.out.mono ?_
      rintro e w9 ⟨rfl, hb⟩
      have HB9 := Ap.of (bel_step HB3.out (bel_step HB7.out hb))
      clear hb
      cases m
      all_goals
        go_wp2_with fail
        go_ret
        exact ⟨rfl, HB9.out⟩
    | true =>
      cases b3
      all_goals
        go_wp2_with fail
        refine HMT7.out.mono ?_
        rintro e w9 ⟨rfl, hb⟩
        have br9 := blk_bel BR7.out hb
        have cr9 := blk_cells br9
        have lr9 := blk_lt br9
        have HB9 := Ap.of (bel_step HB3.out (bel_step HB7.out hb))
        clear hb br9
        cases m with
        | false =>
          go_wp2_with fail
          go_ret
          exact ⟨rfl, HB9.out⟩
        | true =>
          obtain ⟨hoo, hin⟩ := HL2.out.2 (by trivial) (by trivial)
          have HIC := Ap.of (in_calls ko b1 b2 0 false w9)
          rw [hin] at HIC
          subst hoo
          clear hin HL2
          go_wp2_with fail
          refine HIC.out.mono ?_
          rintro e w10 ⟨rfl, hb⟩
          have HBE := Ap.of (bel_step HB9.out hb)
          clear hb
          go_wp2_with fail
          go_ret
          exact ⟨rfl, HBE.out⟩
end Go.Proofs.YtlomieopppndeaaGreatDoor
