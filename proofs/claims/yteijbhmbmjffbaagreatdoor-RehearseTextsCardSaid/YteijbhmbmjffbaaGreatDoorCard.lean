/-
  RehearseTexts: the tied card holds: for every two verdicts the law answers true; the listed package-level variables read as the program's text lays them.
  Conditions: those of the given card (its row's listed variables, tied to the program's text).
-/
import Derived.Test.YteijbhmbmjffbaaGreatDoorRow
import Derived.Test.YteijbhmbmjffbaaGreatDoorGoes
import Derived.Test.YteijbhmbmjffbaaGreatDoorTie
import Derived.SevenTiedAt
namespace Go.Proofs.YteijbhmbmjffbaaGreatDoor
open Go
set_option maxRecDepth 100000 in
theorem plain (f : FuncId) (fn : Func) (hf : Tryz.pinned.checked.prog.funcNamed "hibernacle/hibernaclelaw57.RehearseTexts" = some f) (hfn : Tryz.pinned.checked.prog.funcs[f]? = some fn) :
    true = Tryz.pinned.checked.prog.looks [] ∧ ∀ (j : Nat) t, fn.params[j]? = some t → Tryz.pinned.checked.prog.wantsStandIn t = false := by
  obtain rfl : f = 3 := (Option.some.inj (fact_named.symm.trans hf)).symm
  obtain rfl : fn = Tryz.f3 := (Option.some.inj (Tryz.func3.symm.trans hfn)).symm
  refine ⟨fact_looks, fun j t ht => ?_⟩
  rw [Tryz.params3] at ht
  obtain rfl : t = 25 := by simpa using Array.mem_of_getElem? ht
  exact fact_stand

/-- The card. -/
theorem card : Rows.RehearseTextsCardSaid :=
  Claim7.holds_tied_plain_at .later [] _ _ _ _ said (fun _ h => by cases h) fact_wf (fun _ h => by cases h) rehearseTexts_row_tie rfl ⟨rfl, rfl⟩ fact_main rfl plain goes_false
end Go.Proofs.YteijbhmbmjffbaaGreatDoor
