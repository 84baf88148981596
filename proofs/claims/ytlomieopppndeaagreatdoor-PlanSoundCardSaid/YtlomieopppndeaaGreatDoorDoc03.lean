/- roundelaylaw03.Doc: a document made of bytes. -/
import Derived.Test.YtlomieopppndeaaGreatDoorOf
import Derived.Test.YtlomieopppndeaaGreatDoorRowLaw
namespace Go.Proofs.YtlomieopppndeaaGreatDoor
open Go.RowKit
attribute [local go_sem] max2_int min2_int

theorem Tryz.infoU8 : (Tryz.prog.info? 5).map (fun i => (i.zero, i.size, i.bytes)) = some (some (.int .u8 0), 1, 1) := by kernel_rfl
/-- b[lo:hi]. -/
theorem bytes_mid (A : Option Addr) (n c lo hi : Nat) (h1 : lo ≤ hi) (h2 : hi ≤ n) (hn : n ≤ c) (hc : c ≤ 9223372036854775807) (hA : A = none → c = 0) : ∃ A', (A' = none → c - lo = 0) ∧ (∀ W : World, (Instr.slice 22 (.slice A n c) (some (.int .i64 (lo : Int))) (some (.int .i64 (hi : Int))) none).run Tryz.prog W = .ok (.slice A' (hi - lo) (c - lo)) W) ∧
    ∀ (W : World) (ok : Nat → Prop), Bs W ok A n c → Bs W ok A' (hi - lo) (c - lo) := by

  have e2 : (hi : Int) ≤ (c : Int) := by omega
  cases A with
  | none =>
    obtain rfl := hA rfl
    obtain rfl : hi = 0 := by omega
    obtain rfl : lo = 0 := by omega
    refine ⟨none, fun _ => rfl, fun W => ?_, fun W ok h => ⟨by omega, by omega, fun _ => rfl, .inl rfl⟩⟩
    simp [Instr.slice, Instr.sliceBounds, go_sem]
  | some a =>
    by_cases hcl : c = lo
    · refine ⟨some a, (fun h => by cases h), fun W => ?_, fun W ok h => ⟨by omega, by omega, (fun h => by cases h), .inl (by omega)⟩⟩
      obtain rfl : hi = lo := by omega
      subst hcl
      simp [Instr.slice, Instr.sliceBounds, go_sem]
    · refine ⟨some (a.add lo), (fun h => by cases h), fun W => ?_, fun W ok h => ⟨by omega, by omega, (fun h => by cases h), ?_⟩⟩
      · simp [Instr.slice, Instr.sliceBounds, go_sem, e2, hcl]
        intro h; omega
      · obtain ⟨_, _, _, h | ⟨g, off, e, a1, a2, f⟩⟩ := h
        · exact .inl (by omega)
        · injection e with e
          subst e
          refine .inr ⟨g, off + lo, by simp [Addr.add], a1, a2, fun i hi => ?_⟩
          obtain ⟨x, hx⟩ := f (lo + i) (by omega)
          exact ⟨x, by rw [Nat.add_assoc]; exact hx⟩
/-- append(s, nothing...). -/
theorem run_append_empty {P : Program} (w : World) (t ty e : TypeId) (i : TypeInfo) (ht : P.underlying t = some (.slice e)) (hi : P.info? e = some i) (b off n cap : Nat) (hn : n ≤ cap) (A : Option Addr) (c : Nat) :
    (Builtin.append_ #[t, t] ty #[.slice (some ⟨b, off, none⟩) n cap, .slice A 0 c]).run P w = .ok (.slice (some ⟨b, off, none⟩) n cap) w := by
  cases A with
  | some ad =>
    have := run_append_room_cells (P := P) w t ty e i ht hi b off n cap ad 0 c [] (by simp) (fun j u h => by simp at h) (fun u h => by simp at h) (by omega) (fun j h => by simp at h) (fun j h => by simp at h)
    exact this
  | none => simp [Builtin.append_, run_underlying ht, sizeOf, typeInfo, hi, Builtin.lenOf, Builtin.firstCells, hn, storeCells]
theorem wp_append_empty {P : Program} {w : World} {ops : Array Oper} {rest : List Oper} {o : Oper} {a : Act} {Q : Exit → Act → World → Prop} (hgd : o.guard = none) (s x : Operand) (t e : TypeId) (i : TypeInfo) (ho : o.op = .call { callee := .builtin .append, args := #[s, x], argTypes := #[t, t] }) (ht : P.underlying t = some (.slice e)) (hi : P.info? e = some i)
    (b off n cap : Nat) (hn : n ≤ cap) (A : Option Addr) (c : Nat) (hs : a.eval s = .slice (some ⟨b, off, none⟩) n cap) (hx : a.eval x = .slice A 0 c) (h : wpList P ops Q rest (a.put o.dst (.slice (some ⟨b, off, none⟩) n cap)) w) : wpList P ops Q (o :: rest) a w :=
  wpList_plain hgd fun _ hK => by
    have hrun := run_append_empty (P := P) w t o.type e i ht hi b off n cap hn A c
    unfold Oper.wp execOp
    simp only [ho, resolve, invoke, builtin, Sem.run_bind, Sem.run_pure, Result.andThen_ok, List.map_toArray, List.map_cons, List.map_nil, hs, hx, hrun]
    exact hK _ _ h

set_option maxRecDepth 100000 in
set_option maxHeartbeats 4000000 in
theorem doc_calls (A : Option Addr) (n c : Nat) (w : World) (ok : Nat → Prop) (hok : ∀ k, ok k → k < w.heap.size) (hL : Laid w) (hB : Bs w ok A n c) :
    Calls Tryz.prog 33 #[.slice A n c] w (ValP 4 w) := by
  obtain ⟨lo, hlo⟩ : ∃ N : Nat, (if 1 < (n : Int) then 1 else (n : Int)) = (N : Int) := ⟨if 1 < n then 1 else n, by split <;> split <;> omega⟩
  obtain ⟨hi, hhi⟩ : ∃ N : Nat, (if 60 < (n : Int) then 60 else (n : Int)) = (N : Int) := ⟨if 60 < n then 60 else n, by split <;> split <;> omega⟩
  have hlh : lo ≤ hi := by split at hlo <;> split at hhi <;> omega
  have hhn : hi ≤ n := by split at hhi <;> omega
  have hh60 : hi ≤ 60 := by split at hhi <;> omega
  obtain ⟨A', hA', hrun, hB'⟩ := bytes_mid A n c lo hi hlh hhn hB.1 hB.2.1 hB.2.2.1
  have HB' := Ap.of (hB' w ok hB)
  have hn1 := hB.1
  have hn2 := hB.2.1
  have HOK := Ap.of hok
  have HL := Ap.of hL
  obtain ⟨i0, hif, hzz⟩ := Option.map_eq_some_iff.1 Tryz.infoU8
  simp only [Prod.mk.injEq] at hzz
  have HI := Ap.of (And.intro hif hzz)
  -- the mask
  have hmask : (n = 0 ∧ (0 : Int) = 0) ∨ (0 < n ∧ ∃ g off, A = some ⟨g, off, none⟩ ∧ g < w.heap.size ∧ ∃ x : Int, w.cell? ⟨g, off, none⟩ = some (.int .u8 x) ∧ 0 ≤ x ∧ x ≤ 255) := by
    rcases Nat.eq_zero_or_pos n with h | h
    · exact .inl ⟨h, rfl⟩
    · obtain ⟨_, _, _, h0 | ⟨g, off, e, _, a2, f⟩⟩ := hB
      · omega
      · obtain ⟨x, hx, r⟩ := f 0 h
        rw [Nat.add_zero] at hx
        exact .inr ⟨h, g, off, e, a2, x, hx, r⟩
  have HEMP := Ap.of (show n ≤ 1 → hi - lo = 0 from fun h => by split at hlo <;> split at hhi <;> omega)
  have HSOM := Ap.of (show A' = none → hi - lo = 0 from fun h => by have := hA' h; omega)
  generalize hmm : hi - lo = m at *
  generalize c - lo = c' at *
  have HM60 := Ap.of (show m ≤ 60 by omega)
  clear hB hB' hok hL hif hzz hh60 hlh hhn hmm hA'
  -- what comes behind the append
  have hmade := fun (A2 : Option Addr) (n2 c2 : Nat) (W : World) (hW : Below w.heap.size w W) (h2 : Bs W (fun k => w.heap.size < k ∧ k < W.heap.size) A2 n2 c2) => made_calls 3 (by decide) A2 n2 c2 W _ (fun k hk => hk.2) (HL.out.below hW) h2
  have HMA := Ap.of hmade
  clear hmade
  rcases hmask with ⟨hn0, _⟩ | ⟨hpos, g, off, rfl, hg, x, hx, hx0, hx1⟩
  · have t0 : decide (0 < (n : Int)) = false := by simp; omega
    have t0' : decide (0 < n) = false := by simp; omega
    · obtain rfl : m = 0 := HEMP.out (by omega)
      clear hn0
      have hb2 := bel_step (bel_alloc w (.cells #[.int .i64 0, .int .i64 0, .string ⟨#[]⟩, .slice none 0 0, .slice none 0 0] 28)) (bel_alloc _ (.cells #[.int .u8 (5)] 5))
      have HB2 := Ap.of hb2
      have HBZ := Ap.of (blk_old (o' := .cells #[.int .u8 (5)] 5) (blk_new (w := w) (k := w.heap.size) (o := .cells #[.int .i64 0, .int .i64 0, .string ⟨#[]⟩, .slice none 0 0, .slice none 0 0] 28) rfl))
      have HBN := Ap.of (blk_new (w := w.alloc (.cells #[.int .i64 0, .int .i64 0, .string ⟨#[]⟩, .slice none 0 0, .slice none 0 0] 28)) (k := w.heap.size + 1) (o := .cells #[.int .u8 (5)] 5) (by simp))
      have HMC := Ap.of (HMA.out (some ⟨w.heap.size + 1, 0, none⟩) 1 1 _ hb2 ⟨Nat.le_refl _, by decide, (fun h => by cases h), .inr ⟨w.heap.size + 1, 0, rfl, ⟨by omega, blk_lt HBN.out⟩, blk_lt HBN.out, fun i hi => by
        obtain rfl : i = 0 := by omega
        exact ⟨_, blk_cells HBN.out 0, by omega, by omega⟩⟩⟩)
      clear hb2
      go_enter Tryz.func33, Tryz.ntmps33
      go_wp2_with (at_builtin; refine wp_append_empty rfl (.tmp 17) (.tmp 25) 22 5 i0 rfl Tryz.underlying22 HI.out.1 (w.heap.size + 1) 0 1 1 (Nat.le_refl _) A' c' (by simp [Act.eval]) (by simp [Act.eval]) ?_)
      go_wp2_with fail
      refine HMC.out.mono ?_
      rintro e w5 ⟨z, la, ln, lc, fa, fn, fc, A3, n3, c3, rfl, hz, hgz, _, hb⟩
      have HZ := Ap.of hz
      have HGZ := Ap.of hgz
      have HB5 := Ap.of (bel_step HB2.out hb)
      have b2 := blk_bel HBZ.out hb
      have d2 := blk_cells b2
      have f2 := blk_free b2
      have l2 := blk_lt b2
      clear hz hgz hb b2
      go_wp2_with fail
      have hs := (only5 w5 w.heap.size (.int .i64 z.kind) (.int .i64 z.int) (.string z.text) (.slice la ln lc) (.slice fa fn fc)).alloc (.cells #[.int .i64 z.kind, .int .i64 z.int, .string z.text, .slice la ln lc, .slice fa fn fc] 28)
      exact bodyPost_ret (v := .agg #[.int .i64 z.kind, .int .i64 z.int, .string z.text, .slice la ln lc, .slice fa fn fc]) (by simp [results, Tryz.results33, go_sem, d2, l2]) rfl
        ⟨z, la, ln, lc, fa, fn, fc, rfl, (KV 4).mono (fun j hj => by have := HB2.out.size; omega) (Knd.only HZ.out hs (fun j hj he => by have := blk_lt HBN.out; omega)), HGZ.out, bel_only HB5.out HB5.out.size hs (fun j he => by omega)⟩
  · have t0 : decide (0 < (n : Int)) = true := by simp; omega
    have t0' : decide (0 < n) = true := by simp; omega
    have hm0 : 0 ≤ x % 16 := by omega
    have hm1 : x % 16 ≤ 15 := by omega
    by_cases hm : m = 0
    · obtain rfl : m = 0 := hm
      have hb2 := bel_step (bel_alloc w (.cells #[.int .i64 0, .int .i64 0, .string ⟨#[]⟩, .slice none 0 0, .slice none 0 0] 28)) (bel_alloc _ (.cells #[.int .u8 (5 + 6 * (x % 16))] 5))
      have HB2 := Ap.of hb2
      have HBZ := Ap.of (blk_old (o' := .cells #[.int .u8 (5 + 6 * (x % 16))] 5) (blk_new (w := w) (k := w.heap.size) (o := .cells #[.int .i64 0, .int .i64 0, .string ⟨#[]⟩, .slice none 0 0, .slice none 0 0] 28) rfl))
      have HBN := Ap.of (blk_new (w := w.alloc (.cells #[.int .i64 0, .int .i64 0, .string ⟨#[]⟩, .slice none 0 0, .slice none 0 0] 28)) (k := w.heap.size + 1) (o := .cells #[.int .u8 (5 + 6 * (x % 16))] 5) (by simp))
      have HMC := Ap.of (HMA.out (some ⟨w.heap.size + 1, 0, none⟩) 1 1 _ hb2 ⟨Nat.le_refl _, by decide, (fun h => by cases h), .inr ⟨w.heap.size + 1, 0, rfl, ⟨by omega, blk_lt HBN.out⟩, blk_lt HBN.out, fun i hi => by
        obtain rfl : i = 0 := by omega
        exact ⟨_, blk_cells HBN.out 0, by omega, by omega⟩⟩⟩)
      clear hb2
      go_enter Tryz.func33, Tryz.ntmps33
      go_wp2_with (at_builtin; refine wp_append_empty rfl (.tmp 17) (.tmp 25) 22 5 i0 rfl Tryz.underlying22 HI.out.1 (w.heap.size + 1) 0 1 1 (Nat.le_refl _) A' c' (by simp [Act.eval]) (by simp [Act.eval]) ?_)
      go_wp2_with fail
      refine HMC.out.mono ?_
      rintro e w5 ⟨z, la, ln, lc, fa, fn, fc, A3, n3, c3, rfl, hz, hgz, _, hb⟩
      have HZ := Ap.of hz
      have HGZ := Ap.of hgz
      have HB5 := Ap.of (bel_step HB2.out hb)
      have b2 := blk_bel HBZ.out hb
      have d2 := blk_cells b2
      have f2 := blk_free b2
      have l2 := blk_lt b2
      clear hz hgz hb b2
      go_wp2_with fail
      have hs := (only5 w5 w.heap.size (.int .i64 z.kind) (.int .i64 z.int) (.string z.text) (.slice la ln lc) (.slice fa fn fc)).alloc (.cells #[.int .i64 z.kind, .int .i64 z.int, .string z.text, .slice la ln lc, .slice fa fn fc] 28)
      exact bodyPost_ret (v := .agg #[.int .i64 z.kind, .int .i64 z.int, .string z.text, .slice la ln lc, .slice fa fn fc]) (by simp [results, Tryz.results33, go_sem, d2, l2]) rfl
        ⟨z, la, ln, lc, fa, fn, fc, rfl, (KV 4).mono (fun j hj => by have := HB2.out.size; omega) (Knd.only HZ.out hs (fun j hj he => by have := blk_lt HBN.out; omega)), HGZ.out, bel_only HB5.out HB5.out.size hs (fun j he => by omega)⟩
    · obtain ⟨_, _, _, h0 | ⟨g5, o5, rfl, hk5, hl5, hx5⟩⟩ := HB'.out
      · omega
      have hb2 := bel_step (bel_alloc w (.cells #[.int .i64 0, .int .i64 0, .string ⟨#[]⟩, .slice none 0 0, .slice none 0 0] 28)) (bel_alloc _ (.cells #[.int .u8 (5 + 6 * (x % 16))] 5))
      have HB2 := Ap.of hb2
      have HBZ := Ap.of (blk_old (o' := .cells #[.int .u8 (5 + 6 * (x % 16))] 5) (blk_new (w := w) (k := w.heap.size) (o := .cells #[.int .i64 0, .int .i64 0, .string ⟨#[]⟩, .slice none 0 0, .slice none 0 0] 28) rfl))
      have HBN := Ap.of (blk_new (w := w.alloc (.cells #[.int .i64 0, .int .i64 0, .string ⟨#[]⟩, .slice none 0 0, .slice none 0 0] 28)) (k := w.heap.size + 1) (o := .cells #[.int .u8 (5 + 6 * (x % 16))] 5) (by simp))
      have HOWN := Ap.of (show (((w.alloc (.cells #[.int .i64 0, .int .i64 0, .string ⟨#[]⟩, .slice none 0 0, .slice none 0 0] 28)).alloc (.cells #[.int .u8 (5 + 6 * (x % 16))] 5))).ownsRow (w.heap.size + 1) 5 1 (.slice (some ⟨w.heap.size + 1, 0, none⟩) 1 1) 1 [.int .u8 (5 + 6 * (x % 16))] from ⟨rfl, .inr ⟨w.heap.size + 1, 1, _, rfl, Nat.le_refl _, HBN.out, Nat.le_refl _, by decide, rfl, rfl⟩⟩)
      obtain ⟨news, hnl, hnw⟩ := choose_list (List.range m) (fun i _ u => ∃ z : Int, u = Value.int .u8 z ∧ 0 ≤ z ∧ z ≤ 255 ∧ w.cell? ⟨g5, o5 + i, none⟩ = some u) (fun i j hj => by
        have hi : i < m := by have := (List.getElem?_eq_some_iff.1 hj).1; simpa using this
        obtain ⟨z, h1, h2, h3⟩ := hx5 i hi
        exact ⟨_, z, rfl, h2, h3, h1⟩)
      rw [List.length_range] at hnl
      have hnw' : ∀ (j : Nat) (u : Value), news[j]? = some u → ∃ z : Int, u = Value.int .u8 z ∧ 0 ≤ z ∧ z ≤ 255 ∧ w.cell? ⟨g5, o5 + j, none⟩ = some u := fun j u hj => by
        have hjl : j < m := by rw [← hnl]; exact (List.getElem?_eq_some_iff.1 hj).1
        obtain ⟨u', h1, h2⟩ := hnw j j (by simp [hjl])
        rw [hj] at h1
        injection h1 with h1
        subst h1
        exact h2
      have HNW := Ap.of (And.intro hnl hnw')
      have HL5 := Ap.of hl5
      clear hnl hnw hnw' hb2 hk5 hx5 hl5
      go_enter Tryz.func33, Tryz.ntmps33
      go_wp2_with (at_builtin; refine wpList_append_own _ rfl (.tmp 17) (.tmp 25) 22 rfl (w.heap.size + 1) 5 i0 _ 1 1 Tryz.underlying22 HI.out.1 HI.out.2.1 HI.out.2.2.1 HI.out.2.2.2 rfl (by omega) (.slice (some ⟨w.heap.size + 1, 0, none⟩) 1 1) 1 [.int .u8 (5 + 6 * (x % 16))] (by simp [Act.eval]) HOWN.out ⟨g5, o5, none⟩ m c' news (by simp [Act.eval]) ?qc1 ?qc2 ?qc3 ?qc4 ?qc5 ?qc6 ?_)
      case qc1 => rw [HNW.out.1, Nat.mul_one]
      case qc2 => intro j u hj; obtain ⟨z, _, _, _, h⟩ := HNW.out.2 j u hj; rw [Addr.add_lit]; exact (HB2.out.cell (p := ⟨g5, o5 + j, none⟩) HL5.out).trans h
      case qc3 =>
        intro u hu
        obtain ⟨j, hj, he⟩ := List.getElem_of_mem hu
        obtain ⟨z, h, _⟩ := HNW.out.2 j u (by rw [List.getElem?_eq_getElem hj, he])
        rw [h]; rfl
      case qc4 => have := HM60.out; unfold maxLen; omega
      case qc5 => have := HM60.out; omega
      case qc6 => simp
      intro v5 w4 hown hgrow hnil
      obtain ⟨hcl, ⟨_, h0⟩ | ⟨g6, cap6, cur6, rfl, hB6, hg6, hn6, hc6, hs6, ht6⟩⟩ := hown
      · omega
      have hb4 : Below w.heap.size w w4 := HB2.out.grown hgrow (by simp; omega) (by intro k hk; simp [Value.ownBlock] at hk; omega)
      have HB4 := Ap.of hb4
      have bz4 : w4.heap[w.heap.size]? = some (.cells #[.int .i64 0, .int .i64 0, .string ⟨#[]⟩, .slice none 0 0, .slice none 0 0] 28 (0, 0)) := blk_only HBZ.out (Only.of_grown hgrow) (fun e => by simp [Value.ownBlock] at e)
      have HBZ4 := Ap.of bz4
      have H6 := Ap.of (And.intro (blk_lt hg6) hB6)
      have HMC := Ap.of (HMA.out (some ⟨g6, 0, none⟩) (1 + m) cap6 w4 hb4 ⟨hn6, by unfold maxLen at hc6; omega, (fun h => by cases h), .inr ⟨g6, 0, rfl, ⟨by omega, blk_lt hg6⟩, blk_lt hg6, fun i hi => by
        rw [Nat.zero_add, blk_cells hg6]
        have h1 : cur6[i]? = ([Value.int .u8 (5 + 6 * (x % 16))] ++ news)[i]? := by
          have h7 := congrArg (·[i]?) ht6
          simp only [List.getElem?_take] at h7
          rw [if_pos (by omega), Array.getElem?_toList] at h7
          exact h7
        rw [h1]
        rcases Nat.eq_zero_or_pos i with h | h
        · subst h
          exact ⟨_, rfl, by omega, by omega⟩
        · rw [List.getElem?_append_right (by simp; omega)]
          have hil : i - 1 < news.length := by rw [HNW.out.1]; omega
          obtain ⟨z, h2, h3, h4, _⟩ := HNW.out.2 (i - 1) _ (List.getElem?_eq_getElem hil)
          exact ⟨z, by rw [show i - [Value.int .u8 (5 + 6 * (x % 16))].length = i - 1 from rfl, List.getElem?_eq_getElem hil, h2], h3, h4⟩⟩⟩)
      clear hgrow hnil hg6 hn6 hs6 ht6 hcl hb4 bz4 hc6 hB6
      go_wp2_with fail
      refine HMC.out.mono ?_
      rintro e w5 ⟨z, la, ln, lc, fa, fn, fc, A3, n3, c3, rfl, hz, hgz, _, hb⟩
      have HZ := Ap.of hz
      have HGZ := Ap.of hgz
      have HB5 := Ap.of (bel_step HB4.out hb)
      have b2 := blk_bel HBZ4.out hb
      have d2 := blk_cells b2
      have f2 := blk_free b2
      have l2 := blk_lt b2
      clear hz hgz hb b2
      go_wp2_with fail
      have hs := (only5 w5 w.heap.size (.int .i64 z.kind) (.int .i64 z.int) (.string z.text) (.slice la ln lc) (.slice fa fn fc)).alloc (.cells #[.int .i64 z.kind, .int .i64 z.int, .string z.text, .slice la ln lc, .slice fa fn fc] 28)
      exact bodyPost_ret (v := .agg #[.int .i64 z.kind, .int .i64 z.int, .string z.text, .slice la ln lc, .slice fa fn fc]) (by simp [results, Tryz.results33, go_sem, d2, l2]) rfl
        ⟨z, la, ln, lc, fa, fn, fc, rfl, (KV 4).mono (fun j hj => by have := HB4.out.size; omega) (Knd.only HZ.out hs (fun j hj he => by have := H6.out; omega)), HGZ.out, bel_only HB5.out HB5.out.size hs (fun j he => by omega)⟩
end Go.Proofs.YtlomieopppndeaaGreatDoor
