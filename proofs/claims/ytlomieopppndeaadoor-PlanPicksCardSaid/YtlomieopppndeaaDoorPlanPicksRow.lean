import Derived.Test.YtlomieopppndeaaDoorPicksW
import Derived.Test.YtlomieopppndeaaDoorOpens
import Derived.Test.YtlomieopppndeaaDoorShelf
import Derived.Stop.LaidErr
import Derived.Lib.LaidU8
import Derived.LaidHandle
import Derived.LaidSub
import Derived.MakeChecks
import Derived.Lay
import Derived.Test.YtlomieopppndeaaDoorCards
import Derived.Test.YtlomieopppndeaaDoorTie
import Derived.ProofKit
import Derived.OpenShut
import Derived.ChangeOld
import Derived.Deep.DeepHandedRow
/- What the row of PlanPicks lists gives the walks; a world that meets the list. -/
namespace Go.Proofs.YtlomieopppndeaaDoor.planPicks
open Go.RowKit

theorem own : ownKnob Tryd.prog.godebug = none := by kernel_rfl
/-- The row's list. -/
noncomputable def rowLaid : List (String × DataW Unit) := Rows.planPicksRow.laid
theorem u8x : Go.Proofs.U8Extra Tryd.prog Tryd.lays260_ren := { n3 := by kernel_rfl, n4 := by kernel_rfl, y3 := by kernel_rfl, y4 := by kernel_rfl, c5 := by kernel_rfl, c119 := by kernel_rfl, c138 := by kernel_rfl }
theorem utf8_of_laid {W : World} (h : laidMetH Tryd.prog rowLaid W) : Lib.Utf8Tabs 3 4 W := by
  have h1 := laidMetH.filter (fun x => x.1 == "unicode/utf8.first" || x.1 == "unicode/utf8.acceptRanges") h
  have e1 : (rowLaid.filter fun x => x.1 == "unicode/utf8.first" || x.1 == "unicode/utf8.acceptRanges") = [("unicode/utf8.acceptRanges", Lib.acceptData), ("unicode/utf8.first", Lib.firstData)] := by kernel_rfl
  rw [e1, Go.MakeChecks.laidMetH_plain _ _ _ (by kernel_rfl)] at h1
  exact Go.Proofs.utf8Tabs_of_reads Tryd.lays260 u8x (Lib.laidMet.reads h1 (by simp)) (Lib.laidMet.reads h1 (by simp))
theorem lastZero : (((begin Tryd.prog (fun _ _ => 0) default).world.heap[14 - 1]?).bind Obj.row?).isSome = true := by kernel_rfl
theorem lastLt : 14 - 1 < Tryd.prog.globals.size := of_decide_eq_true (by kernel_rfl)
theorem lo_of {W : World} (hs : W.ShapedOpen Tryd.prog) : 14 ≤ W.heap.size := by
  obtain ⟨⟨z, t⟩, hz⟩ := Option.isSome_iff_exists.1 lastZero
  obtain ⟨cs, hh, _⟩ := hs.1 (14 - 1) z t lastLt hz
  have := blk_lt hh
  omega
theorem cellsStr1 : Tryd.prog.cellsOf 9 = 1 := by kernel_rfl
theorem words_of {W : World} (h : laidMetH Tryd.prog rowLaid W) : ∀ (j : Nat) (s : ByteArray), wordsOf[j]? = some s → W.cell? ⟨6, j, none⟩ = some (.string s) := by
  have h1 := laidMetH.filter (fun x => x.1 == "roundelay/roundelaylaw03.words") h
  have e1 : (rowLaid.filter fun x => x.1 == "roundelay/roundelaylaw03.words") = [("roundelay/roundelaylaw03.words", Rows.laid_roundelay_roundelaylaw03_words)] := rfl
  rw [e1, Go.MakeChecks.laidMetH_plain _ _ _ rfl] at h1
  exact strs_reads (t := 104) (e := 9) (n := 8) (by kernel_rfl) (by kernel_rfl) Tryd.underlying104 Tryd.underlying9 cellsStr1 (by kernel_rfl) (Lib.laidMet.reads h1 (List.mem_singleton.2 rfl))
theorem names_of {W : World} (h : laidMetH Tryd.prog rowLaid W) : ∀ (j : Nat) (s : ByteArray), namesOf[j]? = some s → W.cell? ⟨7, j, none⟩ = some (.string s) := by
  have h1 := laidMetH.filter (fun x => x.1 == "roundelay/roundelaylaw03.names") h
  have e1 : (rowLaid.filter fun x => x.1 == "roundelay/roundelaylaw03.names") = [("roundelay/roundelaylaw03.names", Rows.laid_roundelay_roundelaylaw03_names)] := rfl
  rw [e1, Go.MakeChecks.laidMetH_plain _ _ _ rfl] at h1
  exact strs_reads (t := 157) (e := 9) (n := 4) (by kernel_rfl) (by kernel_rfl) Tryd.underlying157 Tryd.underlying9 cellsStr1 (by kernel_rfl) (Lib.laidMet.reads h1 (List.mem_singleton.2 rfl))
theorem tests_of {W : World} (h : laidMetH Tryd.prog rowLaid W) : ∀ (j : Nat) (s : ByteArray), testsOf[j]? = some s → W.cell? ⟨2, j, none⟩ = some (.string s) := by
  have h1 := laidMetH.filter (fun x => x.1 == "roundelay/roundelaylaw16.tests") h
  have e1 : (rowLaid.filter fun x => x.1 == "roundelay/roundelaylaw16.tests") = [("roundelay/roundelaylaw16.tests", Rows.laid_roundelay_roundelaylaw16_tests)] := rfl
  rw [e1, Go.MakeChecks.laidMetH_plain _ _ _ rfl] at h1
  exact strs_reads (t := 104) (e := 9) (n := 8) (by kernel_rfl) (by kernel_rfl) Tryd.underlying104 Tryd.underlying9 cellsStr1 (by kernel_rfl) (Lib.laidMet.reads h1 (List.mem_singleton.2 rfl))
theorem fnames_of {W : World} (h : laidMetH Tryd.prog rowLaid W) : ∀ (j : Nat) (s : ByteArray), opsOf[j]? = some s → W.cell? ⟨5, j, none⟩ = some (.string s) := by
  have h1 := laidMetH.filter (fun x => x.1 == "roundelay/filter.names") h
  have e1 : (rowLaid.filter fun x => x.1 == "roundelay/filter.names") = [("roundelay/filter.names", Rows.laid_roundelay_filter_names)] := rfl
  rw [e1, Go.MakeChecks.laidMetH_plain _ _ _ rfl] at h1
  exact strs_reads (t := 144) (e := 9) (n := 10) (by kernel_rfl) (by kernel_rfl) Tryd.underlying144 Tryd.underlying9 cellsStr1 (by kernel_rfl) (Lib.laidMet.reads h1 (List.mem_singleton.2 rfl))
theorem paths_of {W : World} (h : laidMetH Tryd.prog rowLaid W) : ∀ (j : Nat) (s : ByteArray), pathsOf[j]? = some s → W.cell? ⟨0, j, none⟩ = some (.string s) := by
  have h1 := laidMetH.filter (fun x => x.1 == "roundelay/roundelaylaw17.paths") h
  have e1 : (rowLaid.filter fun x => x.1 == "roundelay/roundelaylaw17.paths") = [("roundelay/roundelaylaw17.paths", Rows.laid_roundelay_roundelaylaw17_paths)] := rfl
  rw [e1, Go.MakeChecks.laidMetH_plain _ _ _ rfl] at h1
  exact strs_reads (t := 35) (e := 9) (n := 6) (by kernel_rfl) (by kernel_rfl) Tryd.underlying35 Tryd.underlying9 cellsStr1 (by kernel_rfl) (Lib.laidMet.reads h1 (List.mem_singleton.2 rfl))
theorem parG_of {W : World} (h : laidMetH Tryd.prog rowLaid W) (hs : W.ShapedOpen Tryd.prog) : ParG W := ⟨lo_of hs, Tryd.laysM146.s1_3 W hs, utf8_of_laid h⟩
theorem laid_of {W : World} (h : laidMetH Tryd.prog rowLaid W) (hs : W.ShapedOpen Tryd.prog) : Laid W := ⟨words_of h, names_of h, Nat.le_trans (by decide) (lo_of hs)⟩

/-! ### A world that meets the list -/
noncomputable def rowData : List (String × DataW Unit) := rowLaid.filter fun x => x.2.handleName?.isNone
noncomputable def world0 (os : Os) : World :=
  World.holding Tryd.prog os ⟨#[], #[], []⟩
noncomputable def laidWorld (os : Os) : World := (world0 os).layVars Tryd.prog rowData
theorem laidWorld_data (os : Os) : laidMet Tryd.prog rowData (laidWorld os) := by
  have e1 : (rowData.filter fun x => (rowData.map (·.1)).contains x.1) = rowData := List.filter_eq_self.2 fun x hx => List.contains_iff_mem.2 (List.mem_map.2 ⟨x, hx, rfl⟩)
  have e2 : (rowData.filter fun x => !(rowData.map (·.1)).contains x.1) = [] := List.filter_eq_nil_iff.2 fun x hx => by rw [List.contains_iff_mem.2 (List.mem_map.2 ⟨x, hx, rfl⟩)]; simp
  exact laidMet_layVars (w0 := world0 os) (rowData.map (·.1)) [] (by rw [e1]; rfl) (by rw [e1]; kernel_rfl) (by rw [e1]; kernel_rfl) (by rw [e2]; exact LaidIn.none)
theorem laidWorld_met (os : Os) (args : Array Value) : laidMetH Tryd.prog rowLaid ((laidWorld os).forCall (fun _ _ => 0) ⟨#[], args, []⟩).memory :=
  laidMetH_of_parts ((laidWorld_data os).of_heap (by simp [World.memory, World.forCall, Input.heap])) (by kernel_rfl)
end Go.Proofs.YtlomieopppndeaaDoor.planPicks
/- PlanPicks answers true for all bytes and choices, and the input reads as it did: the pick is the first index with an exact range, else the first with any. CONDITIONS: the package-level variables that the row lists hold what their initialisers lay; the card ties that list to the program's text. -/
namespace Go.Proofs.YtlomieopppndeaaDoor.planPicks
open Go.ChangeShapes Go.WideShapes Go.ChangeAt Go.RowKit

theorem laidOut_ : laidOutB Tryd.prog = true := by kernel_rfl
set_option maxRecDepth 100000 in
theorem contract (H : Type) (enc : TypeId × Value → H) (W : World) (base : Nat) (args : Array Value) (ds gs : List (DataW H)) (before : List MemPlace)
    (hval : ∀ (j : Nat) t v, Tryd.f4.params[j]? = some t → args[j]? = some v → Value.okWide Tryd.prog W .any base t v)
    (hW : DataW.Whole enc Tryd.prog Tryd.f4.params.toList Rows.planPicksSpec.vars false W args.toList ds gs before) (hL : laidMetH Tryd.prog Rows.planPicksRow.laid W) (hS : W.ShapedOpen Tryd.prog) :
    Calls Tryd.prog 4 args W fun e W' => ∃ v, e = .returned v ∧ Rows.planPicksSpec.post enc Tryd.prog Tryd.f4 false true false false W args v W' := by
  have hW' := hW
  obtain ⟨p, q, hA0, hV, rfl, hfz, hnd⟩ := hW
  have hA : DataW.TrodAll enc Tryd.prog W 0 (fun _ => true) true Tryd.f4.params.toList args.toList ds p := hA0
  rw [Tryd.params4] at hA hval
  obtain ⟨v0, vs0, d0, ds0, p0, q0, hargs, rfl, rfl, h0, r0⟩ := trodAll_cons hA
  obtain ⟨v1, vs1, d1, ds1, p1, q1, rfl, rfl, rfl, h1, r1⟩ := trodAll_cons r0
  obtain ⟨rfl, rfl, rfl⟩ := trodAll_nil r1
  obtain rfl : args = #[v0, v1] := by cases args; simp_all
  obtain ⟨rfl, rfl⟩ := trodVars_none hV
  obtain ⟨A0, n0, c0, rfl⟩ := okWide_slice Tryd.underlying22 (hval 0 22 v0 rfl rfl)
  have lt0 : ∀ x ∈ p0, x.block < W.heap.size := by obtain ⟨m, hm⟩ := h0; exact DataW.trod_lt m _ _ _ hm
  have b0 := bytes_open h0
  obtain ⟨A1, n1, c1, rfl⟩ := okWide_slice Tryd.underlying22 (hval 1 22 v1 rfl rfl)
  have lt1 : ∀ x ∈ p1, x.block < W.heap.size := by obtain ⟨m, hm⟩ := h1; exact DataW.trod_lt m _ _ _ hm
  have b1 := bytes_open h1
  clear hA0
  simp only [List.append_nil] at hW'
  refine (picks_calls A0 n0 c0 A1 n1 c1 W b0 b1 (⟨⟨⟨parG_of hL hS, fnames_of hL⟩, ⟨laid_of hL hS, tests_of hL⟩⟩, paths_of hL⟩)).mono fun e W' ⟨he, hg⟩ => ?_
  subst he
  exact ⟨_, rfl, _, _, _, [], _, [], hW', trodAll_mk1 (shut_bool Tryd.underlying4 _), (trodAll_cons_mk (Below.trod laidOut_ (by kernel_rfl) (of_decide_eq_true (by kernel_rfl)) h0 hg lt0) (trodAll_cons_mk (Below.trod laidOut_ (by kernel_rfl) (of_decide_eq_true (by kernel_rfl)) h1 hg lt1) trodAll_mk0)), rfl, hg.frame _, fun h => by cases h⟩

theorem reads (os : Os) {H : Type} (enc : TypeId × Value → H) : ∃ places, DataW.whole enc Tryd.prog ((laidWorld os).forCall (fun _ _ => 0) ⟨#[], #[.slice none 0 0, .slice none 0 0], []⟩).memory Tryd.f4.params.toList Rows.planPicksSpec.vars false #[Value.slice none 0 0, Value.slice none 0 0].toList 8 = some ([.nil, .nil], [], places) :=
  ⟨[], by kernel_rfl⟩
theorem laidWorld_os (os : Os) : (laidWorld os).os = os := World.layVars_os _ _ _

set_option maxRecDepth 100000 in
theorem lifted (os : Os) (started : os.Started) (H : Type) (enc : TypeId × Value → H) (F : Stop.Interp) :
    ReturnsInHanded {} Tryd.checked os 4 .any ((OpenSpec.ofChange Rows.planPicksSpec).preRow enc Tryd.prog Tryd.f4 Rows.planPicksRow.domain false Rows.planPicksRow.laid) (((OpenSpec.ofChange Rows.planPicksSpec).at F).post enc Tryd.prog Tryd.f4 false true false false) := by
  obtain ⟨places, hx⟩ := reads os enc
  refine returnsInHanded_of_row (C := Tryd.checked) (s := OpenSpec.ofChange Rows.planPicksSpec) own started (by kernel_rfl) Tryd.func4
    (witness_row_at (enc := enc) (C := Tryd.checked) false (laidWorld os) #[.slice none 0 0, .slice none 0 0] (laidWorld_os os) (by kernel_rfl) (by kernel_rfl) (by kernel_rfl)
      (OpenSpec.preRow_of_cond 8 hx (by kernel_rfl) (fun k hk => by cases hk) (by kernel_rfl) (laidWorld_met os _))) ?_
  intro W base args ds gs before hval hW _ _ _ hL hS _
  exact contract H enc W base args ds gs before hval hW hL hS

set_option maxRecDepth 100000 in
theorem closed_ : joinedFacts Tryd.pinned.checked.prog 4 Tryd.f4 (OpenSpec.ofChange Rows.planPicksSpec).bare Rows.planPicksRow = true := by kernel_rfl
set_option maxHeartbeats 1000000 in
theorem said : Rows.PlanPicksSaid :=
  OpenClaim.holds_of_cond 4 Tryd.f4 rfl rfl rfl rfl rfl rfl rfl ⟨rfl, rfl, rfl, rfl, rfl⟩ rfl rfl rfl rfl rfl (by kernel_rfl) Tryd.func4 closed_
    (of_decide_eq_true (by kernel_rfl)) (by unfold Func.isWrapper; first | (rw [if_pos (by decide +kernel)]; kernel_rfl) | (rw [if_neg (by decide +kernel)]; exact ⟨rfl, rfl⟩))
    (fun os started H enc _ F => by rw [OpenClaim.pre_eq_preRow]; exact lifted os started H enc F)

theorem plain (f : FuncId) (fn : Func) (hf : Tryd.pinned.checked.prog.funcNamed "roundelay/roundelaylaw17.PlanPicks" = some f) (hfn : Tryd.pinned.checked.prog.funcs[f]? = some fn) :
    true = Tryd.pinned.checked.prog.looks [] ∧ ∀ (j : Nat) t, fn.params[j]? = some t → Tryd.pinned.checked.prog.wantsStandIn t = false := by
  obtain rfl : f = 4 := Option.some.inj ((show Tryd.prog.funcNamed "roundelay/roundelaylaw17.PlanPicks" = some 4 by kernel_rfl).symm.trans hf) |>.symm
  obtain rfl : fn = Tryd.f4 := (Option.some.inj (Tryd.func4.symm.trans hfn)).symm
  refine ⟨by kernel_rfl, fun j t ht => ?_⟩
  rw [Tryd.params4] at ht
  have hm : t = 22 ∨ t = 22 := by simpa using Array.mem_of_getElem? ht
  rcases hm with rfl | rfl
  · exact (show Tryd.prog.wantsStandIn 22 = false by kernel_rfl)
  · exact (show Tryd.prog.wantsStandIn 22 = false by kernel_rfl)

/-- ████ THE CARD ████ -/
theorem card : Rows.PlanPicksCardSaid :=
  Claim7.holds_tied_plain_at .later [] _ _ _ _ said (fun _ h => by cases h) (by kernel_rfl) (fun _ h => by cases h) planPicks_row_tie rfl ⟨rfl, rfl⟩ (by kernel_rfl) rfl plain (by kernel_rfl)
#print axioms card
end Go.Proofs.YtlomieopppndeaaDoor.planPicks
