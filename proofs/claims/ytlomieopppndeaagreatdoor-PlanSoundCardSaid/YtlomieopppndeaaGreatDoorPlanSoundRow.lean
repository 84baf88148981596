import Derived.Test.YtlomieopppndeaaGreatDoorSoundW
import Derived.Test.YtlomieopppndeaaGreatDoorOpens
import Derived.Test.YtlomieopppndeaaGreatDoorShelf
import Derived.Stop.LaidErr
import Derived.Lib.LaidU8
import Derived.LaidHandle
import Derived.LaidSub
import Derived.MakeChecks
import Derived.Lay
import Derived.Test.YtlomieopppndeaaGreatDoorCards
import Derived.Test.YtlomieopppndeaaGreatDoorTie
import Derived.ProofKit
import Derived.OpenShut
import Derived.ChangeOld
import Derived.Deep.DeepHandedRow
/- What the row of PlanSound lists gives the walks; a world that meets the list. -/
namespace Go.Proofs.YtlomieopppndeaaGreatDoor.planSound
open Go.RowKit

theorem own : ownKnob Tryz.prog.godebug = none := by kernel_rfl
/-- The row's list. -/
noncomputable def rowLaid : List (String × DataW Unit) := Rows.planSoundRow.laid
theorem gES : Tryz.prog.globalNamed "strconv.ErrSyntax" = some 9 := by kernel_rfl
theorem gESType : (Tryz.prog.globals[9]?).map (·.type) = some 56 := by kernel_rfl
theorem gER : Tryz.prog.globalNamed "strconv.ErrRange" = some 10 := by kernel_rfl
theorem gERType : (Tryz.prog.globals[10]?).map (·.type) = some 56 := by kernel_rfl
theorem cellsErr : Tryz.prog.cellsOf 228 = 1 := by kernel_rfl
theorem cellsStr : Tryz.prog.cellsOf 9 = 1 := by kernel_rfl
theorem star : "*" ++ "errors.errorString" = "*errors.errorString" := by decide
theorem rowErr (u : TypeId) (h : Tryz.prog.typeName? 3 u = some "*errors.errorString") : u = 226 :=
  typeName_ptr_named (nm := "errors.errorString") (by rw [star]; kernel_rfl) (by kernel_rfl) (by decide) u (by rw [star]; exact h)
theorem errs_of_laid {W : World} (h : laidMetH Tryz.prog rowLaid W) : (∃ t p, W.cell? ⟨9, 0, none⟩ = some (.iface t p)) ∧ ∃ t p, W.cell? ⟨10, 0, none⟩ = some (.iface t p) := by
  have h1 := laidMetH.filter (fun x => x.1 == "strconv.ErrSyntax") h
  have e1 : (rowLaid.filter fun x => x.1 == "strconv.ErrSyntax") = [("strconv.ErrSyntax", Rows.laid_strconv_ErrSyntax)] := rfl
  rw [e1, Go.MakeChecks.laidMetH_plain _ _ _ rfl] at h1
  have h2 := laidMetH.filter (fun x => x.1 == "strconv.ErrRange") h
  have e2 : (rowLaid.filter fun x => x.1 == "strconv.ErrRange") = [("strconv.ErrRange", Rows.laid_strconv_ErrRange)] := rfl
  rw [e2, Go.MakeChecks.laidMetH_plain _ _ _ rfl] at h2
  constructor
  · obtain ⟨a0, s0, hv0, -, -, -⟩ := laid_sentinel h1 gES gESType Tryz.underlying56 rowErr Tryz.underlying226 Tryz.underlying228 rfl rfl Tryz.underlying9 cellsErr cellsStr
    exact ⟨_, _, by simpa using World.var?_cell gES hv0 0⟩
  · obtain ⟨a0, s0, hv0, -, -, -⟩ := laid_sentinel h2 gER gERType Tryz.underlying56 rowErr Tryz.underlying226 Tryz.underlying228 rfl rfl Tryz.underlying9 cellsErr cellsStr
    exact ⟨_, _, by simpa using World.var?_cell gER hv0 0⟩
theorem u8x : Go.Proofs.U8Extra Tryz.prog Tryz.lays260_ren := { n3 := by kernel_rfl, n4 := by kernel_rfl, y3 := by kernel_rfl, y4 := by kernel_rfl, c5 := by kernel_rfl, c119 := by kernel_rfl, c138 := by kernel_rfl }
theorem utf8_of_laid {W : World} (h : laidMetH Tryz.prog rowLaid W) : Lib.Utf8Tabs 6 7 W := by
  have h1 := laidMetH.filter (fun x => x.1 == "unicode/utf8.first" || x.1 == "unicode/utf8.acceptRanges") h
  have e1 : (rowLaid.filter fun x => x.1 == "unicode/utf8.first" || x.1 == "unicode/utf8.acceptRanges") = [("unicode/utf8.acceptRanges", Lib.acceptData), ("unicode/utf8.first", Lib.firstData)] := by kernel_rfl
  rw [e1, Go.MakeChecks.laidMetH_plain _ _ _ (by kernel_rfl)] at h1
  exact Go.Proofs.utf8Tabs_of_reads Tryz.lays260 u8x (Lib.laidMet.reads h1 (by simp)) (Lib.laidMet.reads h1 (by simp))
theorem lastZero : (((begin Tryz.prog (fun _ _ => 0) default).world.heap[14 - 1]?).bind Obj.row?).isSome = true := by kernel_rfl
theorem lastLt : 14 - 1 < Tryz.prog.globals.size := of_decide_eq_true (by kernel_rfl)
theorem lo_of {W : World} (hs : W.ShapedOpen Tryz.prog) : 14 ≤ W.heap.size := by
  obtain ⟨⟨z, t⟩, hz⟩ := Option.isSome_iff_exists.1 lastZero
  obtain ⟨cs, hh, _⟩ := hs.1 (14 - 1) z t lastLt hz
  have := blk_lt hh
  omega
theorem cellsStr1 : Tryz.prog.cellsOf 9 = 1 := by kernel_rfl
theorem words_of {W : World} (h : laidMetH Tryz.prog rowLaid W) : ∀ (j : Nat) (s : ByteArray), wordsOf[j]? = some s → W.cell? ⟨1, j, none⟩ = some (.string s) := by
  have h1 := laidMetH.filter (fun x => x.1 == "roundelay/roundelaylaw03.words") h
  have e1 : (rowLaid.filter fun x => x.1 == "roundelay/roundelaylaw03.words") = [("roundelay/roundelaylaw03.words", Rows.laid_roundelay_roundelaylaw03_words)] := rfl
  rw [e1, Go.MakeChecks.laidMetH_plain _ _ _ rfl] at h1
  exact strs_reads (t := 109) (e := 9) (n := 8) (by kernel_rfl) (by kernel_rfl) Tryz.underlying109 Tryz.underlying9 cellsStr1 (by kernel_rfl) (Lib.laidMet.reads h1 (List.mem_singleton.2 rfl))
theorem names_of {W : World} (h : laidMetH Tryz.prog rowLaid W) : ∀ (j : Nat) (s : ByteArray), namesOf[j]? = some s → W.cell? ⟨2, j, none⟩ = some (.string s) := by
  have h1 := laidMetH.filter (fun x => x.1 == "roundelay/roundelaylaw03.names") h
  have e1 : (rowLaid.filter fun x => x.1 == "roundelay/roundelaylaw03.names") = [("roundelay/roundelaylaw03.names", Rows.laid_roundelay_roundelaylaw03_names)] := rfl
  rw [e1, Go.MakeChecks.laidMetH_plain _ _ _ rfl] at h1
  exact strs_reads (t := 110) (e := 9) (n := 4) (by kernel_rfl) (by kernel_rfl) Tryz.underlying110 Tryz.underlying9 cellsStr1 (by kernel_rfl) (Lib.laidMet.reads h1 (List.mem_singleton.2 rfl))
theorem tests_of {W : World} (h : laidMetH Tryz.prog rowLaid W) : ∀ (j : Nat) (s : ByteArray), testsOf[j]? = some s → W.cell? ⟨3, j, none⟩ = some (.string s) := by
  have h1 := laidMetH.filter (fun x => x.1 == "roundelay/roundelaylaw16.tests") h
  have e1 : (rowLaid.filter fun x => x.1 == "roundelay/roundelaylaw16.tests") = [("roundelay/roundelaylaw16.tests", Rows.laid_roundelay_roundelaylaw16_tests)] := rfl
  rw [e1, Go.MakeChecks.laidMetH_plain _ _ _ rfl] at h1
  exact strs_reads (t := 109) (e := 9) (n := 8) (by kernel_rfl) (by kernel_rfl) Tryz.underlying109 Tryz.underlying9 cellsStr1 (by kernel_rfl) (Lib.laidMet.reads h1 (List.mem_singleton.2 rfl))
theorem fnames_of {W : World} (h : laidMetH Tryz.prog rowLaid W) : ∀ (j : Nat) (s : ByteArray), opsOf[j]? = some s → W.cell? ⟨5, j, none⟩ = some (.string s) := by
  have h1 := laidMetH.filter (fun x => x.1 == "roundelay/filter.names") h
  have e1 : (rowLaid.filter fun x => x.1 == "roundelay/filter.names") = [("roundelay/filter.names", Rows.laid_roundelay_filter_names)] := rfl
  rw [e1, Go.MakeChecks.laidMetH_plain _ _ _ rfl] at h1
  exact strs_reads (t := 165) (e := 9) (n := 10) (by kernel_rfl) (by kernel_rfl) Tryz.underlying165 Tryz.underlying9 cellsStr1 (by kernel_rfl) (Lib.laidMet.reads h1 (List.mem_singleton.2 rfl))
theorem paths_of {W : World} (h : laidMetH Tryz.prog rowLaid W) : ∀ (j : Nat) (s : ByteArray), pathsOf[j]? = some s → W.cell? ⟨0, j, none⟩ = some (.string s) := by
  have h1 := laidMetH.filter (fun x => x.1 == "roundelay/roundelaylaw17.paths") h
  have e1 : (rowLaid.filter fun x => x.1 == "roundelay/roundelaylaw17.paths") = [("roundelay/roundelaylaw17.paths", Rows.laid_roundelay_roundelaylaw17_paths)] := rfl
  rw [e1, Go.MakeChecks.laidMetH_plain _ _ _ rfl] at h1
  exact strs_reads (t := 71) (e := 9) (n := 6) (by kernel_rfl) (by kernel_rfl) Tryz.underlying71 Tryz.underlying9 cellsStr1 (by kernel_rfl) (Lib.laidMet.reads h1 (List.mem_singleton.2 rfl))
theorem parG_of {W : World} (h : laidMetH Tryz.prog rowLaid W) (hs : W.ShapedOpen Tryz.prog) : ParG W := ⟨lo_of hs, Tryz.laysM146.s1_3 W hs, utf8_of_laid h⟩
theorem finG_of {W : World} (h : laidMetH Tryz.prog rowLaid W) (hs : W.ShapedOpen Tryz.prog) : FinG W := ⟨(errs_of_laid h).1, (errs_of_laid h).2, lo_of hs⟩
theorem laid_of {W : World} (h : laidMetH Tryz.prog rowLaid W) (hs : W.ShapedOpen Tryz.prog) : Laid W := ⟨words_of h, names_of h, Nat.le_trans (by decide) (lo_of hs)⟩

/-! ### A world that meets the list -/
noncomputable def rowData : List (String × DataW Unit) := rowLaid.filter fun x => x.2.handleName?.isNone
noncomputable def world0 (os : Os) : World :=
  World.holding Tryz.prog os ⟨#[], #[], []⟩
noncomputable def laidWorld (os : Os) : World := (world0 os).layVars Tryz.prog rowData
theorem laidWorld_data (os : Os) : laidMet Tryz.prog rowData (laidWorld os) := by
  have e1 : (rowData.filter fun x => (rowData.map (·.1)).contains x.1) = rowData := List.filter_eq_self.2 fun x hx => List.contains_iff_mem.2 (List.mem_map.2 ⟨x, hx, rfl⟩)
  have e2 : (rowData.filter fun x => !(rowData.map (·.1)).contains x.1) = [] := List.filter_eq_nil_iff.2 fun x hx => by rw [List.contains_iff_mem.2 (List.mem_map.2 ⟨x, hx, rfl⟩)]; simp
  exact laidMet_layVars (w0 := world0 os) (rowData.map (·.1)) [] (by rw [e1]; rfl) (by rw [e1]; kernel_rfl) (by rw [e1]; kernel_rfl) (by rw [e2]; exact LaidIn.none)
theorem laidWorld_met (os : Os) (args : Array Value) : laidMetH Tryz.prog rowLaid ((laidWorld os).forCall (fun _ _ => 0) ⟨#[], args, []⟩).memory :=
  laidMetH_of_parts ((laidWorld_data os).of_heap (by simp [World.memory, World.forCall, Input.heap])) (by kernel_rfl)
end Go.Proofs.YtlomieopppndeaaGreatDoor.planSound
/- PlanSound answers true for all bytes and paths, and the input reads as it did: what meets a filter has its key within the filter's bounds. CONDITIONS: the package-level variables hold what the program's start leaves, as the row lists it. -/
namespace Go.Proofs.YtlomieopppndeaaGreatDoor.planSound
open Go.ChangeShapes Go.WideShapes Go.ChangeAt Go.RowKit

theorem laidOut_ : laidOutB Tryz.prog = true := by kernel_rfl
set_option maxRecDepth 100000 in
theorem contract (H : Type) (enc : TypeId × Value → H) (W : World) (base : Nat) (args : Array Value) (ds gs : List (DataW H)) (before : List MemPlace)
    (hval : ∀ (j : Nat) t v, Tryz.f11.params[j]? = some t → args[j]? = some v → Value.okWide Tryz.prog W .any base t v)
    (hW : DataW.Whole enc Tryz.prog Tryz.f11.params.toList Rows.planSoundSpec.vars false W args.toList ds gs before) (hL : laidMetH Tryz.prog Rows.planSoundRow.laid W) (hS : W.ShapedOpen Tryz.prog) :
    Calls Tryz.prog 11 args W fun e W' => ∃ v, e = .returned v ∧ Rows.planSoundSpec.post enc Tryz.prog Tryz.f11 false true false false W args v W' := by
  have hW' := hW
  obtain ⟨p, q, hA0, hV, rfl, hfz, hnd⟩ := hW
  have hA : DataW.TrodAll enc Tryz.prog W 0 (fun _ => true) true Tryz.f11.params.toList args.toList ds p := hA0
  rw [Tryz.params11] at hA hval
  obtain ⟨v0, vs0, d0, ds0, p0, q0, hargs, rfl, rfl, h0, r0⟩ := trodAll_cons hA
  obtain ⟨v1, vs1, d1, ds1, p1, q1, rfl, rfl, rfl, h1, r1⟩ := trodAll_cons r0
  obtain ⟨v2, vs2, d2, ds2, p2, q2, rfl, rfl, rfl, h2, r2⟩ := trodAll_cons r1
  obtain ⟨rfl, rfl, rfl⟩ := trodAll_nil r2
  obtain rfl : args = #[v0, v1, v2] := by cases args; simp_all
  obtain ⟨rfl, rfl⟩ := trodVars_none hV
  obtain ⟨A0, n0, c0, rfl⟩ := okWide_slice Tryz.underlying22 (hval 0 22 v0 rfl rfl)
  have lt0 : ∀ x ∈ p0, x.block < W.heap.size := by obtain ⟨m, hm⟩ := h0; exact DataW.trod_lt m _ _ _ hm
  have b0 := bytes_open h0
  obtain ⟨A1, n1, c1, rfl⟩ := okWide_slice Tryz.underlying22 (hval 1 22 v1 rfl rfl)
  have lt1 : ∀ x ∈ p1, x.block < W.heap.size := by obtain ⟨m, hm⟩ := h1; exact DataW.trod_lt m _ _ _ hm
  have b1 := bytes_open h1
  obtain ⟨a2, rfl, rfl, rfl, w2⟩ := open_int Tryz.underlying5 (hval 2 5 v2 rfl rfl) h2
  have b2 := bounds_u8 w2
  clear hA0
  simp only [List.append_nil] at hW'
  refine (plansound_calls A0 n0 c0 A1 n1 c1 a2 W b0 b1 b2 (⟨⟨⟨⟨parG_of hL hS, fnames_of hL⟩, ⟨laid_of hL hS, tests_of hL⟩⟩, paths_of hL⟩, finG_of hL hS⟩)).mono fun e W' ⟨he, hg⟩ => ?_
  subst he
  exact ⟨_, rfl, _, _, _, [], _, [], hW', trodAll_mk1 (shut_bool Tryz.underlying4 _), (trodAll_cons_mk (Below.trod laidOut_ (by kernel_rfl) (of_decide_eq_true (by kernel_rfl)) h0 hg lt0) (trodAll_cons_mk (Below.trod laidOut_ (by kernel_rfl) (of_decide_eq_true (by kernel_rfl)) h1 hg lt1) (trodAll_cons_mk (shut_int Tryz.underlying5 w2) trodAll_mk0))), rfl, hg.frame _, fun h => by cases h⟩

theorem reads (os : Os) {H : Type} (enc : TypeId × Value → H) : ∃ places, DataW.whole enc Tryz.prog ((laidWorld os).forCall (fun _ _ => 0) ⟨#[], #[.slice none 0 0, .slice none 0 0, .int .u8 0], []⟩).memory Tryz.f11.params.toList Rows.planSoundSpec.vars false #[Value.slice none 0 0, Value.slice none 0 0, Value.int .u8 0].toList 8 = some ([.nil, .nil, .lit (.int .u8 0)], [], places) :=
  ⟨[], by kernel_rfl⟩
theorem laidWorld_os (os : Os) : (laidWorld os).os = os := World.layVars_os _ _ _

set_option maxRecDepth 100000 in
theorem lifted (os : Os) (started : os.Started) (H : Type) (enc : TypeId × Value → H) (F : Stop.Interp) :
    ReturnsInHanded {} Tryz.checked os 11 .any ((OpenSpec.ofChange Rows.planSoundSpec).preRow enc Tryz.prog Tryz.f11 Rows.planSoundRow.domain false Rows.planSoundRow.laid) (((OpenSpec.ofChange Rows.planSoundSpec).at F).post enc Tryz.prog Tryz.f11 false true false false) := by
  obtain ⟨places, hx⟩ := reads os enc
  refine returnsInHanded_of_row (C := Tryz.checked) (s := OpenSpec.ofChange Rows.planSoundSpec) own started (by kernel_rfl) Tryz.func11
    (witness_row_at (enc := enc) (C := Tryz.checked) false (laidWorld os) #[.slice none 0 0, .slice none 0 0, .int .u8 0] (laidWorld_os os) (by kernel_rfl) (by kernel_rfl) (by kernel_rfl)
      (OpenSpec.preRow_of_cond 8 hx (by kernel_rfl) (fun k hk => by cases hk) (by kernel_rfl) (laidWorld_met os _))) ?_
  intro W base args ds gs before hval hW _ _ _ hL hS _
  exact contract H enc W base args ds gs before hval hW hL hS

set_option maxRecDepth 100000 in
theorem closed_ : joinedFacts Tryz.pinned.checked.prog 11 Tryz.f11 (OpenSpec.ofChange Rows.planSoundSpec).bare Rows.planSoundRow = true := by kernel_rfl
set_option maxHeartbeats 1000000 in
theorem said : Rows.PlanSoundSaid :=
  OpenClaim.holds_of_cond 11 Tryz.f11 rfl rfl rfl rfl rfl rfl rfl ⟨rfl, rfl, rfl, rfl, rfl⟩ rfl rfl rfl rfl rfl (by kernel_rfl) Tryz.func11 closed_
    (of_decide_eq_true (by kernel_rfl)) (by unfold Func.isWrapper; first | (rw [if_pos (by decide +kernel)]; kernel_rfl) | (rw [if_neg (by decide +kernel)]; exact ⟨rfl, rfl⟩))
    (fun os started H enc _ F => by rw [OpenClaim.pre_eq_preRow]; exact lifted os started H enc F)

theorem plain (f : FuncId) (fn : Func) (hf : Tryz.pinned.checked.prog.funcNamed "roundelay/roundelaylaw17.PlanSound" = some f) (hfn : Tryz.pinned.checked.prog.funcs[f]? = some fn) :
    true = Tryz.pinned.checked.prog.looks [] ∧ ∀ (j : Nat) t, fn.params[j]? = some t → Tryz.pinned.checked.prog.wantsStandIn t = false := by
  obtain rfl : f = 11 := Option.some.inj ((show Tryz.prog.funcNamed "roundelay/roundelaylaw17.PlanSound" = some 11 by kernel_rfl).symm.trans hf) |>.symm
  obtain rfl : fn = Tryz.f11 := (Option.some.inj (Tryz.func11.symm.trans hfn)).symm
  refine ⟨by kernel_rfl, fun j t ht => ?_⟩
  rw [Tryz.params11] at ht
  have hm : t = 22 ∨ t = 22 ∨ t = 5 := by simpa using Array.mem_of_getElem? ht
  rcases hm with rfl | rfl | rfl
  · exact (show Tryz.prog.wantsStandIn 22 = false by kernel_rfl)
  · exact (show Tryz.prog.wantsStandIn 22 = false by kernel_rfl)
  · exact (show Tryz.prog.wantsStandIn 5 = false by kernel_rfl)

/-- ████ THE CARD ████ -/
theorem card : Rows.PlanSoundCardSaid :=
  Claim7.holds_tied_plain_at .later [] _ _ _ _ said (fun _ h => by cases h) (by kernel_rfl) (fun _ h => by cases h) planSound_row_tie rfl ⟨rfl, rfl⟩ (by kernel_rfl) rfl plain (by kernel_rfl)
#print axioms card
end Go.Proofs.YtlomieopppndeaaGreatDoor.planSound
