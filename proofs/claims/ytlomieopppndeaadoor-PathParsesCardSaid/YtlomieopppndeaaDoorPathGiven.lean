/- What the rows' lists give the walks on paths; a world that meets them. -/
import Derived.Test.YtlomieopppndeaaDoorPathAwake
import Derived.Stop.LaidErr
import Derived.Lib.LaidU8
import Derived.LaidHandle
import Derived.LaidSub
import Derived.MakeChecks
import Derived.Lay
namespace Go.Proofs.YtlomieopppndeaaDoor
open Go.RowKit

theorem own : ownKnob Tryd.prog.godebug = none := by kernel_rfl
theorem gES : Tryd.prog.globalNamed "strconv.ErrSyntax" = some 9 := by kernel_rfl
theorem gESType : (Tryd.prog.globals[9]?).map (·.type) = some 52 := by kernel_rfl
theorem gER : Tryd.prog.globalNamed "strconv.ErrRange" = some 10 := by kernel_rfl
theorem gERType : (Tryd.prog.globals[10]?).map (·.type) = some 52 := by kernel_rfl
theorem cellsErr : Tryd.prog.cellsOf 189 = 1 := by kernel_rfl
theorem cellsStr : Tryd.prog.cellsOf 9 = 1 := by kernel_rfl
theorem star : "*" ++ "errors.errorString" = "*errors.errorString" := by decide
theorem rowErr (u : TypeId) (h : Tryd.prog.typeName? 3 u = some "*errors.errorString") : u = 187 :=
  typeName_ptr_named (nm := "errors.errorString") (by rw [star]; kernel_rfl) (by kernel_rfl) (by decide) u (by rw [star]; exact h)
theorem gET : Tryd.prog.globalNamed "errors.errorType" = some 1 := by kernel_rfl
theorem rtRow : (Tryd.prog.cutTypes.find? (·.1 == "internal/reflectlite.rtype")).map (·.2) = some 131 := by kernel_rfl
theorem errRow : ((List.range 225).filter fun t => Tryd.prog.rowNamed t [101, 114, 114, 111, 114]) = [52] := by kernel_rfl
theorem errSize : Tryd.prog.types.size = 225 := by kernel_rfl

/-- The list of the rows of paths. -/
noncomputable def pathLaid : List (String × DataW Unit) := Rows.pathLongRow.laid

theorem errs_of_laid {W : World} (h : laidMetH Tryd.prog pathLaid W) : (∃ t p, W.cell? ⟨9, 0, none⟩ = some (.iface t p)) ∧ ∃ t p, W.cell? ⟨10, 0, none⟩ = some (.iface t p) := by
  have h1 := laidMetH.filter (fun x => x.1 == "strconv.ErrSyntax") h
  have e1 : (pathLaid.filter fun x => x.1 == "strconv.ErrSyntax") = [("strconv.ErrSyntax", Rows.laid_strconv_ErrSyntax)] := rfl
  rw [e1, Go.MakeChecks.laidMetH_plain _ _ _ rfl] at h1
  have h2 := laidMetH.filter (fun x => x.1 == "strconv.ErrRange") h
  have e2 : (pathLaid.filter fun x => x.1 == "strconv.ErrRange") = [("strconv.ErrRange", Rows.laid_strconv_ErrRange)] := rfl
  rw [e2, Go.MakeChecks.laidMetH_plain _ _ _ rfl] at h2
  constructor
  · obtain ⟨a0, s0, hv0, -, -, -⟩ := laid_sentinel h1 gES gESType Tryd.underlying52 rowErr Tryd.underlying187 Tryd.underlying189 rfl rfl Tryd.underlying9 cellsErr cellsStr
    exact ⟨_, _, by simpa using World.var?_cell gES hv0 0⟩
  · obtain ⟨a0, s0, hv0, -, -, -⟩ := laid_sentinel h2 gER gERType Tryd.underlying52 rowErr Tryd.underlying187 Tryd.underlying189 rfl rfl Tryd.underlying9 cellsErr cellsStr
    exact ⟨_, _, by simpa using World.var?_cell gER hv0 0⟩
theorem handle_of_laid {W : World} (h : laidMetH Tryd.prog pathLaid W) : W.cell? ⟨1, 0, none⟩ = some (.iface 131 (.agg #[.pointer (some ⟨14, 52, none⟩)])) := by
  have h1 := laidMetH.filter (fun x => x.1 == "errors.errorType") h
  have e1 : (pathLaid.filter fun x => x.1 == "errors.errorType") = [("errors.errorType", Rows.laid_errors_errorType)] := rfl
  rw [e1] at h1
  have h' : laidMet Tryd.prog [] W ∧ handlesMet Tryd.prog [("errors.errorType", Rows.laid_errors_errorType)] W := h1
  obtain ⟨name, u, ty, e1, e2, e3, e4, e5⟩ := h'.2 _ (List.mem_singleton.2 rfl)
  have en : name = [101, 114, 114, 111, 114] := (Option.some.inj e1).symm
  subst en
  obtain rfl := Option.some.inj (rtRow.symm.trans e2)
  have hm : ty ∈ (List.range 225).filter fun t => Tryd.prog.rowNamed t [101, 114, 114, 111, 114] := List.mem_filter.2 ⟨List.mem_range.2 (by rw [← errSize]; exact e3), e4⟩
  rw [errRow] at hm
  obtain rfl := List.mem_singleton.1 hm
  have hh : typeHandle Tryd.prog 52 = .pointer (some ⟨14, 52, none⟩) := by kernel_rfl
  rw [hh] at e5
  simpa using World.var?_cell gET e5 0
theorem u8x : Go.Proofs.U8Extra Tryd.prog Tryd.lays260_ren := { n3 := by kernel_rfl, n4 := by kernel_rfl, y3 := by kernel_rfl, y4 := by kernel_rfl, c5 := by kernel_rfl, c119 := by kernel_rfl, c138 := by kernel_rfl }
theorem utf8_of_laid {W : World} (h : laidMetH Tryd.prog pathLaid W) : Lib.Utf8Tabs 3 4 W := by
  have h1 := laidMetH.filter (fun x => x.1 == "unicode/utf8.first" || x.1 == "unicode/utf8.acceptRanges") h
  have e1 : (pathLaid.filter fun x => x.1 == "unicode/utf8.first" || x.1 == "unicode/utf8.acceptRanges") = [("unicode/utf8.acceptRanges", Lib.acceptData), ("unicode/utf8.first", Lib.firstData)] := by kernel_rfl
  rw [e1, Go.MakeChecks.laidMetH_plain _ _ _ (by kernel_rfl)] at h1
  exact Go.Proofs.utf8Tabs_of_reads Tryd.lays260 u8x (Lib.laidMet.reads h1 (by simp)) (Lib.laidMet.reads h1 (by simp))
theorem lastZero : (((begin Tryd.prog (fun _ _ => 0) default).world.heap[14 - 1]?).bind Obj.row?).isSome = true := by kernel_rfl
theorem lastLt : 14 - 1 < Tryd.prog.globals.size := of_decide_eq_true (by kernel_rfl)
theorem lo_of {W : World} (hs : W.ShapedOpen Tryd.prog) : 14 ≤ W.heap.size := by
  obtain ⟨⟨z, t⟩, hz⟩ := Option.isSome_iff_exists.1 lastZero
  obtain ⟨cs, hh, _⟩ := hs.1 (14 - 1) z t lastLt hz
  have := blk_lt hh
  omega
theorem pathG_of {W : World} (h : laidMetH Tryd.prog pathLaid W) (hs : W.ShapedOpen Tryd.prog) : PathG W :=
  ⟨⟨lo_of hs, Tryd.laysM146.s1_3 W hs, utf8_of_laid h⟩, ⟨(errs_of_laid h).1, (errs_of_laid h).2, lo_of hs⟩, ⟨lo_of hs, handle_of_laid h⟩⟩

/-! ### A world that meets the list -/
noncomputable def pathData : List (String × DataW Unit) := pathLaid.filter fun x => x.2.handleName?.isNone
noncomputable def world0 (os : Os) : World :=
  { World.holding Tryd.prog os ⟨#[], #[], []⟩ with heap := (World.holding Tryd.prog os ⟨#[], #[], []⟩).heap.modify 1 fun
      | .cells _ t frozen => .cells #[.iface 131 (.agg #[.pointer (some ⟨14, 52, none⟩)])] t frozen
      | o => o }
noncomputable def laidWorld (os : Os) : World := (world0 os).layVars Tryd.prog pathData
theorem laidWorld_data (os : Os) : laidMet Tryd.prog pathData (laidWorld os) := by
  have e1 : (pathData.filter fun x => (pathData.map (·.1)).contains x.1) = pathData := List.filter_eq_self.2 fun x hx => List.contains_iff_mem.2 (List.mem_map.2 ⟨x, hx, rfl⟩)
  have e2 : (pathData.filter fun x => !(pathData.map (·.1)).contains x.1) = [] := List.filter_eq_nil_iff.2 fun x hx => by rw [List.contains_iff_mem.2 (List.mem_map.2 ⟨x, hx, rfl⟩)]; simp
  exact laidMet_layVars (w0 := world0 os) (pathData.map (·.1)) [] (by rw [e1]; rfl) (by rw [e1]; kernel_rfl) (by rw [e1]; kernel_rfl) (by rw [e2]; exact LaidIn.none)
theorem laidWorld_met (os : Os) (args : Array Value) : laidMetH Tryd.prog pathLaid ((laidWorld os).forCall (fun _ _ => 0) ⟨#[], args, []⟩).memory :=
  laidMetH_of_parts ((laidWorld_data os).of_heap (by simp [World.memory, World.forCall, Input.heap])) (by kernel_rfl)
end Go.Proofs.YtlomieopppndeaaDoor
