/-
  An input that fits: a world in which the listed variables hold what they are laid with.
-/
import Derived.Test.YteijbhmbmjffbaaGreatDoorCards
import Derived.Test.YteijbhmbmjffbaaGreatDoorTie
import Derived.Test.YteijbhmbmjffbaaGreatDoorDec
import Derived.ProofKit
import Derived.SizedLaws
import Derived.LaidMore
import Derived.Lib.LaidTab
import Derived.Lib.LaidU8
import Derived.Lib.SmallJoins
import Derived.Deep.DeepHandedRow
import Derived.Deep.DeepWitnessRowRef
namespace Go.Proofs.YteijbhmbmjffbaaGreatDoor
open Go.ChangeShapes Go.WideShapes Go.ChangeAt Go.RowKit Go.Joins

theorem own : ownKnob Tryz.prog.godebug = none := by kernel_rfl
theorem cells25 : Tryz.prog.cellsOf 25 = 3 := by kernel_rfl

/-- A start for the witness: the heap that the door's run leaves, the pinned table laid besides. -/
noncomputable def laidWorld (os : Os) : World :=
  { World.doorLaid Tryz.prog 72 os with heap := (World.doorLaid Tryz.prog 72 os).heap.modify 6 fun
      | .cells _ t frozen => .cells (Lib.firstTab.map fun z => Value.int .u8 z).toArray t frozen
      | o => o }
theorem laid_met (os : Os) (args : Array Value) : laidMet Tryz.prog Rows.rehearseTextsRow.laid ((laidWorld os).forCall (fun _ _ => 0) ⟨#[], args, []⟩).memory :=
  laidMet_of_run' 8 (by kernel_rfl) (by kernel_rfl)

/-- Two verdicts for the witness. -/
def zeroV : Value := .agg #[.int .i64 0, .int .u64 0, .int .i64 0]
theorem reads (os : Os) {H : Type} (enc : TypeId × Value → H) : ∃ places, DataW.whole enc Tryz.prog ((laidWorld os).forCall (fun _ _ => 0) ⟨#[], #[zeroV, zeroV], []⟩).memory Tryz.f3.params.toList Rows.rehearseTextsSpec.vars false #[zeroV, zeroV].toList 8 =
    some ([.agg [.lit (.int .i64 0), .lit (.int .u64 0), .lit (.int .i64 0)], .agg [.lit (.int .i64 0), .lit (.int .u64 0), .lit (.int .i64 0)]], [], places) :=
  ⟨[], by kernel_rfl⟩

theorem tab_of (W : World) (hL : laidMetH Tryz.prog Rows.rehearseTextsRow.laid W) : Tab W := by
  rw [MakeChecks.laidMetH_plain _ _ _ (by kernel_rfl)] at hL
  obtain ⟨g', t', cs, fuel, p, hg', ht', hvar, hd⟩ := Lib.laidMet.reads hL (n := "internal/strconv.uint64pow10") (d := Lib.tabData .u64 Lib.pow10Tab) (.tail _ (.tail _ (.head _)))
  obtain rfl := Option.some.inj ((show Tryz.prog.globalNamed "internal/strconv.uint64pow10" = some 0 by kernel_rfl).symm.trans hg')
  obtain rfl := Option.some.inj ((show (Tryz.prog.globals[0]?).map (·.type) = some 176 by kernel_rfl).symm.trans ht')
  show _ = _
  rw [hvar, ← Lib.cells_of_tab Tryz.underlying176 (show Tryz.prog.underlying 22 = some (.int .u64) from Tryz.underlying22) (by kernel_rfl) (by kernel_rfl) hd]

end Go.Proofs.YteijbhmbmjffbaaGreatDoor
