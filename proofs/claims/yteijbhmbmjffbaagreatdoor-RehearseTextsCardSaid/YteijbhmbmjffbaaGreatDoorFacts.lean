/-
  The closed facts of the row, one by one.
-/
import Derived.Test.YteijbhmbmjffbaaGreatDoorRows
import Derived.JoinedCond
import Derived.KernelRfl
namespace Go.Proofs.YteijbhmbmjffbaaGreatDoor
theorem fact0 : Rows.rehearseTextsRow.wf (OpenSpec.ofChange (OpenSpec.ofChange Rows.rehearseTextsSpec).bare) = true := by kernel_rfl
theorem fact1 : laidOutB Tryz.prog = true := by kernel_rfl
theorem fact2 : mapsRowed Tryz.prog = true := by kernel_rfl
theorem fact3 : Tryz.f3.params.all (Tryz.prog.readableRec ·) = true := by kernel_rfl
theorem fact4 : namedTie Tryz.prog Rows.rehearseTextsRow.named (OpenSpec.ofChange Rows.rehearseTextsSpec).bare.vars = true := by kernel_rfl
theorem fact5 : (Rows.rehearseTextsRow.stops == []) = true := by kernel_rfl
theorem fact6 : (Tryz.prog.stops == []) = true := by kernel_rfl
theorem fact7 : (Rows.rehearseTextsRow.knobs == []) = true := by kernel_rfl
theorem fact8 : (Tryz.prog.stopKnobs == []) = true := by kernel_rfl
theorem fact9 : (Rows.rehearseTextsRow.inPlace == Tryz.prog.inPlace 3) = true := by kernel_rfl
theorem fact10 : (Rows.rehearseTextsRow.unfollowed == Tryz.prog.unfollowed 3) = true := by kernel_rfl
theorem fact11 : (Rows.rehearseTextsRow.recurses == Tryz.prog.recurses 3) = true := by kernel_rfl
theorem fact12 : (Rows.rehearseTextsRow.named == Tryz.prog.varsNamed 3) = true := by kernel_rfl
theorem fact13 : (Rows.rehearseTextsRow.maps == (Tryz.f3.params.toList ++ (OpenSpec.ofChange Rows.rehearseTextsSpec).bare.plain.varTypes Tryz.prog).any (Tryz.prog.mapsRec ·)) = true := by kernel_rfl
theorem fact14 : (Rows.rehearseTextsRow.ifaces == (Tryz.f3.params.toList ++ (OpenSpec.ofChange Rows.rehearseTextsSpec).bare.plain.varTypes Tryz.prog).any (Tryz.prog.ifacesRec ·)) = true := by kernel_rfl
theorem fact15 : (Rows.rehearseTextsRow.mapsOut == Tryz.prog.mapsAmong Tryz.f3.resultTypes.toList) = true := by kernel_rfl
theorem fact16 : (Rows.rehearseTextsRow.loops == (Tryz.f3.params.toList ++ (OpenSpec.ofChange Rows.rehearseTextsSpec).bare.plain.varTypes Tryz.prog).any (Tryz.prog.loopsFrom ·)) = true := by kernel_rfl
theorem fact17 : (Rows.rehearseTextsRow.wideKeys == (Tryz.f3.params.toList ++ (OpenSpec.ofChange Rows.rehearseTextsSpec).bare.plain.varTypes Tryz.prog ++ Tryz.f3.resultTypes.toList).any (Tryz.prog.wideKeysFrom ·)) = true := by kernel_rfl
theorem fact18 : (OpenSpec.ofChange Rows.rehearseTextsSpec).bare.vars.all (Tryz.prog.varReadable ·) = true := by kernel_rfl
theorem fact19 : Tryz.f3.resultTypes.all (fun t => Tryz.prog.readableRec t && decide (t < Tryz.prog.types.size)) = true := by kernel_rfl
theorem fact20 : (Rows.rehearseTextsRow.ifacesOut == Tryz.f3.resultTypes.toList.any (Tryz.prog.ifacesRec ·)) = true := by kernel_rfl
theorem fact21 : (Rows.rehearseTextsRow.loopsOut == Tryz.f3.resultTypes.toList.any (Tryz.prog.loopsFrom ·)) = true := by kernel_rfl
theorem fact22 : (Rows.rehearseTextsRow.plainKeys == Tryz.prog.plainKeys) = true := by kernel_rfl
theorem fact23 : Rows.rehearseTextsRow.shortTexts.isNone = true := by kernel_rfl
theorem fact24 : Tryz.prog.stopsHeard = true := by kernel_rfl
theorem fact25 : Tryz.prog.mayEnter = true := by kernel_rfl
theorem fact26 : (Rows.rehearseTextsRow.lifted == Tryz.prog.liftsFinal) = true := by kernel_rfl
theorem fact27 : (Tryz.prog.make == some Rows.rehearseTextsRow.make) = true := by kernel_rfl
theorem fact28 : (Rows.rehearseTextsRow.kinds == (if Rows.rehearseTextsRow.domain.isEmpty then [] else Tryz.f3.params.toList.map fun t => match Tryz.prog.underlying t with | some (.int k) => some k | _ => none)) = true := by kernel_rfl
theorem fact29 : (Rows.rehearseTextsRow.pinned == Rows.rehearseTextsRow.pinnedBy) = true := by kernel_rfl
theorem fact30 : (Rows.rehearseTextsRow.veiled == (Tryz.f3.params.toList ++ (OpenSpec.ofChange Rows.rehearseTextsSpec).bare.plain.varTypes Tryz.prog ++ Tryz.f3.resultTypes.toList).any (Tryz.prog.veiledRec ·)) = true := by kernel_rfl
theorem fact31 : Rows.rehearseTextsRow.veiledFits Tryz.prog Tryz.f3.params.toList (Tryz.f3.params.toList ++ (OpenSpec.ofChange Rows.rehearseTextsSpec).bare.plain.varTypes Tryz.prog ++ Tryz.f3.resultTypes.toList) = true := by kernel_rfl
end Go.Proofs.YteijbhmbmjffbaaGreatDoor
