/-
  Closed facts of the card: nothing in the program starts a goroutine, and the looks of the program.
-/
import Derived.Test.YteijbhmbmjffbaaGreatDoorCards
import Derived.KernelRfl
namespace Go.Proofs.YteijbhmbmjffbaaGreatDoor
theorem any_false {o : Option Nat} {p : Nat → Bool} (h : ∀ f, p f = false) : o.any p = false := by
  cases o with
  | none => rfl
  | some f => exact h f
/-- A program none of whose functions goes: no call of it starts a goroutine. -/
theorem goesBy_false (P : Program) (c : OpenClaim) (hs : c.start = .entering) (hn : P.funcs.any Func.goes = false) : false = c.goesBy P := by
  have g : ∀ g : Nat, (P.funcs[g]?).any Func.goes = false := fun g => by
    cases h : P.funcs[g]? with
    | none => rfl
    | some fn =>
      rw [Array.any_eq_false] at hn
      obtain ⟨hlt, he⟩ := Array.getElem?_eq_some_iff.1 h
      have := hn g hlt
      rw [he] at this
      simpa using this
  have e : ∀ f, P.goes f = false := fun f => by
    unfold Program.goes
    rw [hn, Bool.and_false, Bool.or_false, List.any_eq_false]
    intro x _
    rw [g x]
    exact Bool.false_ne_true
  unfold OpenClaim.goesBy Program.goesAt Program.goesFrom
  rw [any_false e, hs]
  rfl
theorem no_goes : (Tryz.prog.funcs.any Func.goes) = false := by kernel_rfl
theorem goes_false : false = Rows.rehearseTextsRow.goesBy Tryz.pinned.checked.prog := goesBy_false Tryz.prog Rows.rehearseTextsRow rfl no_goes
theorem fact_wf : Rows.rehearseTextsRow.wfByText (OpenSpec.ofChange Rows.rehearseTextsSpec) = true := by kernel_rfl
theorem fact_main : Tryz.prog.mainIs = some (true, "6797a1898475d285115a1729d9299c887787eb63c1d43709f2f795eafeb75343".toList) := by kernel_rfl
theorem fact_looks : true = Tryz.prog.looks [] := by kernel_rfl
theorem fact_named : Tryz.prog.funcNamed "hibernacle/hibernaclelaw57.RehearseTexts" = some 3 := by kernel_rfl
theorem fact_stand : Tryz.prog.wantsStandIn 25 = false := by kernel_rfl
end Go.Proofs.YteijbhmbmjffbaaGreatDoor
