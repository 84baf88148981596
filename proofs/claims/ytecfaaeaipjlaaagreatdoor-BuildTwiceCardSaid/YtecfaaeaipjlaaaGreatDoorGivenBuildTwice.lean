/- What the row of BuildTwice lists gives the walks; a world that meets the list. -/
import Derived.Test.YtecfaaeaipjlaaaGreatDoorChk
import Derived.Test.YtecfaaeaipjlaaaGreatDoorOpens
import Derived.Test.YtecfaaeaipjlaaaGreatDoorShelf
import Derived.Stop.LaidErr
import Derived.Lib.LaidU8
import Derived.LaidHandle
import Derived.LaidSub
import Derived.MakeChecks
import Derived.Lay
namespace Go.Proofs.YtecfaaeaipjlaaaGreatDoor.buildTwice
open Go.RowKit

theorem own : ownKnob Tryz.prog.godebug = none := by kernel_rfl
/-- The row's list. -/
noncomputable def rowLaid : List (String × DataW Unit) := Rows.buildTwiceRow.laid
theorem gES : Tryz.prog.globalNamed "strconv.ErrSyntax" = some 4 := by kernel_rfl
theorem gESType : (Tryz.prog.globals[4]?).map (·.type) = some 35 := by kernel_rfl
theorem gER : Tryz.prog.globalNamed "strconv.ErrRange" = some 5 := by kernel_rfl
theorem gERType : (Tryz.prog.globals[5]?).map (·.type) = some 35 := by kernel_rfl
theorem cellsErr : Tryz.prog.cellsOf 284 = 1 := by kernel_rfl
theorem cellsStr : Tryz.prog.cellsOf 9 = 1 := by kernel_rfl
theorem star : "*" ++ "errors.errorString" = "*errors.errorString" := by decide
theorem rowErr (u : TypeId) (h : Tryz.prog.typeName? 3 u = some "*errors.errorString") : u = 282 :=
  typeName_ptr_named (nm := "errors.errorString") (by rw [star]; kernel_rfl) (by kernel_rfl) (by decide) u (by rw [star]; exact h)
theorem errs_of_laid {W : World} (h : laidMetH Tryz.prog rowLaid W) : (∃ t p, W.cell? ⟨4, 0, none⟩ = some (.iface t p)) ∧ ∃ t p, W.cell? ⟨5, 0, none⟩ = some (.iface t p) := by
  have h1 := laidMetH.filter (fun x => x.1 == "strconv.ErrSyntax") h
  have e1 : (rowLaid.filter fun x => x.1 == "strconv.ErrSyntax") = [("strconv.ErrSyntax", Rows.laid_strconv_ErrSyntax)] := rfl
  rw [e1, Go.MakeChecks.laidMetH_plain _ _ _ rfl] at h1
  have h2 := laidMetH.filter (fun x => x.1 == "strconv.ErrRange") h
  have e2 : (rowLaid.filter fun x => x.1 == "strconv.ErrRange") = [("strconv.ErrRange", Rows.laid_strconv_ErrRange)] := rfl
  rw [e2, Go.MakeChecks.laidMetH_plain _ _ _ rfl] at h2
  constructor
  · obtain ⟨a0, s0, hv0, -, -, -⟩ := laid_sentinel h1 gES gESType Tryz.underlying35 rowErr Tryz.underlying282 Tryz.underlying284 rfl rfl Tryz.underlying9 cellsErr cellsStr
    exact ⟨_, _, by simpa using World.var?_cell gES hv0 0⟩
  · obtain ⟨a0, s0, hv0, -, -, -⟩ := laid_sentinel h2 gER gERType Tryz.underlying35 rowErr Tryz.underlying282 Tryz.underlying284 rfl rfl Tryz.underlying9 cellsErr cellsStr
    exact ⟨_, _, by simpa using World.var?_cell gER hv0 0⟩
theorem gET : Tryz.prog.globalNamed "errors.errorType" = some 0 := by kernel_rfl
theorem rtRow : (Tryz.prog.cutTypes.find? (·.1 == "internal/reflectlite.rtype")).map (·.2) = some 164 := by kernel_rfl
theorem errRow : ((List.range 319).filter fun t => Tryz.prog.rowNamed t [101, 114, 114, 111, 114]) = [35] := by kernel_rfl
theorem errSize : Tryz.prog.types.size = 319 := by kernel_rfl
theorem handle_of_laid {W : World} (h : laidMetH Tryz.prog rowLaid W) : W.cell? ⟨0, 0, none⟩ = some (.iface 164 (.agg #[.pointer (some ⟨9, 35, none⟩)])) := by
  have h1 := laidMetH.filter (fun x => x.1 == "errors.errorType") h
  have e1 : (rowLaid.filter fun x => x.1 == "errors.errorType") = [("errors.errorType", Rows.laid_errors_errorType)] := rfl
  rw [e1] at h1
  have h' : laidMet Tryz.prog [] W ∧ handlesMet Tryz.prog [("errors.errorType", Rows.laid_errors_errorType)] W := h1
  obtain ⟨name, u, ty, e1, e2, e3, e4, e5⟩ := h'.2 _ (List.mem_singleton.2 rfl)
  have en : name = [101, 114, 114, 111, 114] := (Option.some.inj e1).symm
  subst en
  obtain rfl := Option.some.inj (rtRow.symm.trans e2)
  have hm : ty ∈ (List.range 319).filter fun t => Tryz.prog.rowNamed t [101, 114, 114, 111, 114] := List.mem_filter.2 ⟨List.mem_range.2 (by rw [← errSize]; exact e3), e4⟩
  rw [errRow] at hm
  obtain rfl := List.mem_singleton.1 hm
  have hh : typeHandle Tryz.prog 35 = .pointer (some ⟨9, 35, none⟩) := by kernel_rfl
  rw [hh] at e5
  simpa using World.var?_cell gET e5 0
theorem u8x : Go.Proofs.U8Extra Tryz.prog Tryz.lays260_ren := { n3 := by kernel_rfl, n4 := by kernel_rfl, y3 := by kernel_rfl, y4 := by kernel_rfl, c5 := by kernel_rfl, c119 := by kernel_rfl, c138 := by kernel_rfl }
theorem utf8_of_laid {W : World} (h : laidMetH Tryz.prog rowLaid W) : Lib.Utf8Tabs 2 3 W := by
  have h1 := laidMetH.filter (fun x => x.1 == "unicode/utf8.first" || x.1 == "unicode/utf8.acceptRanges") h
  have e1 : (rowLaid.filter fun x => x.1 == "unicode/utf8.first" || x.1 == "unicode/utf8.acceptRanges") = [("unicode/utf8.acceptRanges", Lib.acceptData), ("unicode/utf8.first", Lib.firstData)] := by kernel_rfl
  rw [e1, Go.MakeChecks.laidMetH_plain _ _ _ (by kernel_rfl)] at h1
  exact Go.Proofs.utf8Tabs_of_reads Tryz.lays260 u8x (Lib.laidMet.reads h1 (by simp)) (Lib.laidMet.reads h1 (by simp))
theorem lastZero : (((begin Tryz.prog (fun _ _ => 0) default).world.heap[9 - 1]?).bind Obj.row?).isSome = true := by kernel_rfl
theorem lastLt : 9 - 1 < Tryz.prog.globals.size := of_decide_eq_true (by kernel_rfl)
theorem lo_of {W : World} (hs : W.ShapedOpen Tryz.prog) : 9 ≤ W.heap.size := by
  obtain ⟨⟨z, t⟩, hz⟩ := Option.isSome_iff_exists.1 lastZero
  obtain ⟨cs, hh, _⟩ := hs.1 (9 - 1) z t lastLt hz
  have := blk_lt hh
  omega
theorem cellsStr1 : Tryz.prog.cellsOf 9 = 1 := by kernel_rfl
theorem parG_of {W : World} (h : laidMetH Tryz.prog rowLaid W) (hs : W.ShapedOpen Tryz.prog) : ParG W := ⟨lo_of hs, Tryz.laysM146.s1_3 W hs, utf8_of_laid h⟩
theorem finG_of {W : World} (h : laidMetH Tryz.prog rowLaid W) (hs : W.ShapedOpen Tryz.prog) : FinG W := ⟨(errs_of_laid h).1, (errs_of_laid h).2, lo_of hs⟩
theorem errG_of {W : World} (h : laidMetH Tryz.prog rowLaid W) (hs : W.ShapedOpen Tryz.prog) : ErrG W := ⟨lo_of hs, handle_of_laid h⟩

/-! ### A world that meets the list -/
noncomputable def rowData : List (String × DataW Unit) := rowLaid.filter fun x => x.2.handleName?.isNone
noncomputable def world0 (os : Os) : World :=
  { World.holding Tryz.prog os ⟨#[], #[], []⟩ with heap := (World.holding Tryz.prog os ⟨#[], #[], []⟩).heap.modify 0 fun
      | .cells _ t frozen => .cells #[.iface 164 (.agg #[.pointer (some ⟨9, 35, none⟩)])] t frozen
      | o => o }
noncomputable def laidWorld (os : Os) : World := (world0 os).layVars Tryz.prog rowData
theorem laidWorld_data (os : Os) : laidMet Tryz.prog rowData (laidWorld os) := by
  have e1 : (rowData.filter fun x => (rowData.map (·.1)).contains x.1) = rowData := List.filter_eq_self.2 fun x hx => List.contains_iff_mem.2 (List.mem_map.2 ⟨x, hx, rfl⟩)
  have e2 : (rowData.filter fun x => !(rowData.map (·.1)).contains x.1) = [] := List.filter_eq_nil_iff.2 fun x hx => by rw [List.contains_iff_mem.2 (List.mem_map.2 ⟨x, hx, rfl⟩)]; simp
  exact laidMet_layVars (w0 := world0 os) (rowData.map (·.1)) [] (by rw [e1]; rfl) (by rw [e1]; kernel_rfl) (by rw [e1]; kernel_rfl) (by rw [e2]; exact LaidIn.none)
theorem laidWorld_met (os : Os) (args : Array Value) : laidMetH Tryz.prog rowLaid ((laidWorld os).forCall (fun _ _ => 0) ⟨#[], args, []⟩).memory :=
  laidMetH_of_parts ((laidWorld_data os).of_heap (by simp [World.memory, World.forCall, Input.heap])) (by kernel_rfl)
end Go.Proofs.YtecfaaeaipjlaaaGreatDoor.buildTwice
