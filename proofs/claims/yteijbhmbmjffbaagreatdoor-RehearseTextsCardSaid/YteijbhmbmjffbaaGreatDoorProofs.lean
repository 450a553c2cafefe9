/-
  RehearseTexts holds: for every two verdicts the law answers true, where the listed package-level variables read as the program's text lays them.
-/
import Derived.Test.YteijbhmbmjffbaaGreatDoorWitness
import Derived.Test.YteijbhmbmjffbaaGreatDoorLaw
import Derived.OpenShut
namespace Go.Proofs.YteijbhmbmjffbaaGreatDoor
open Go.ChangeShapes Go.WideShapes Go.ChangeAt Go.RowKit Go.Joins

set_option maxRecDepth 100000 in
/-- A verdict by value: three numbers with their bounds. -/
theorem open_verdict {H : Type} {enc : TypeId × Value → H} {W : World} {base : Nat} {v : Value} {d : DataW H} {p : List MemPlace}
    (hv : Value.okWide Tryz.prog W .any base 25 v) (h : DataW.Trod enc Tryz.prog W 0 (fun _ => true) true 25 v d p) :
    ∃ k a y : Int, v = .agg #[.int .i64 k, .int .u64 a, .int .i64 y] ∧ d = .agg [.lit (.int .i64 k), .lit (.int .u64 a), .lit (.int .i64 y)] ∧ p = [] ∧ Okv a y ∧
      ∀ (W' : World) (sp : Nat → Bool), DataW.Trod enc Tryz.prog W' 0 sp true 25 v d [] := by
  obtain ⟨c0, c1, c2, y0, y1, y2, m, rfl, rfl, rfl, h0, h1, h2⟩ := open_agg3 Tryz.underlying25 (by kernel_rfl) cells25 hv h
  obtain ⟨k, e0, rfl, wk⟩ := DataW.trod_int Tryz.underlying3 h0
  obtain ⟨a, e1, rfl, wa⟩ := DataW.trod_int Tryz.underlying22 h1
  obtain ⟨y, e2, rfl, wy⟩ := DataW.trod_int Tryz.underlying23 h2
  simp at e0 e1 e2
  subst e0 e1 e2
  refine ⟨k, a, y, rfl, rfl, rfl, ?_, fun W' sp => ?_⟩
  · have b1 := bounds_u64 wa
    have b2 := bounds_i64 wy
    exact ⟨⟨b1.1, by omega⟩, b2.1, b2.2⟩
  · exact shut_agg3 (y0 := (.lit (.int .i64 k), [])) (y1 := (.lit (.int .u64 a), [])) (y2 := (.lit (.int .i64 y), [])) Tryz.underlying25 (by kernel_rfl) cells25 ⟨1, by simp [DataW.trod, Tryz.underlying3, wk]⟩ ⟨1, by simp [DataW.trod, Tryz.underlying22, wa]⟩ ⟨1, by simp [DataW.trod, Tryz.underlying23, wy]⟩

set_option maxRecDepth 100000 in
theorem contract (H : Type) (enc : TypeId × Value → H) (W : World) (base : Nat) (args : Array Value) (ds gs : List (DataW H)) (before : List MemPlace)
    (hval0 : ∀ (j : Nat) t v, Tryz.f3.params[j]? = some t → args[j]? = some v → Value.okWide Tryz.prog W .any base t v)
    (hW : DataW.Whole enc Tryz.prog Tryz.f3.params.toList Rows.rehearseTextsSpec.vars false W args.toList ds gs before) (hL : laidMetH Tryz.prog Rows.rehearseTextsRow.laid W) :
    Calls Tryz.prog 3 args W fun e W' => ∃ v, e = .returned v ∧ Rows.rehearseTextsSpec.post enc Tryz.prog Tryz.f3 false true false false W args v W' := by
  have hval : ∀ (j : Nat) t v, Tryz.f3.params[j]? = some t → args[j]? = some v → Value.okWide Tryz.prog W .any base t v := hval0
  have hW' := hW
  obtain ⟨p, q, hA0, hV0, rfl, _, _⟩ := hW
  have hA : DataW.TrodAll enc Tryz.prog W 0 (fun _ => true) true Tryz.f3.params.toList args.toList ds p := hA0
  rw [Tryz.params3] at hA hval
  obtain ⟨v0, v1, d0, d1, p0, p1, rfl, rfl, rfl, h0, h1⟩ := trodAll_two hA
  obtain ⟨rfl, rfl⟩ := trodVars_none hV0
  obtain ⟨k1, a1, y1, rfl, rfl, rfl, o1, s1⟩ := open_verdict (hval 0 25 v0 rfl rfl) h0
  obtain ⟨k2, a2, y2, rfl, rfl, rfl, o2, s2⟩ := open_verdict (hval 1 25 v1 rfl rfl) h1
  clear hA0 hV0 hval0
  refine (law_any k1 a1 y1 k2 a2 y2 o1 o2 W (tab_of W hL)).mono ?_
  rintro e W' ⟨rfl, bel⟩
  refine ⟨_, rfl, _, _, _, [], [], [], hW', ?_, ?_, ?_, bel.frame _, fun h => by cases h⟩
  · exact trodAll_mk1 (shut_bool Tryz.underlying4 _)
  · exact trodAll_mk2 (s1 _ _) (s2 _ _)
  · rfl

set_option maxRecDepth 100000 in
set_option maxHeartbeats 2000000 in
theorem lifted (os : Os) (started : os.Started) (H : Type) (enc : TypeId × Value → H) (F : Stop.Interp) :
    ReturnsInHanded {} Tryz.checked os 3 .any ((OpenSpec.ofChange Rows.rehearseTextsSpec).preRow enc Tryz.prog Tryz.f3 Rows.rehearseTextsRow.domain false Rows.rehearseTextsRow.laid) (((OpenSpec.ofChange Rows.rehearseTextsSpec).at F).post enc Tryz.prog Tryz.f3 false true false false) := by
  obtain ⟨places, hx⟩ := reads os enc
  refine returnsInHanded_of_row (C := Tryz.checked) (s := OpenSpec.ofChange Rows.rehearseTextsSpec) own started (by kernel_rfl) Tryz.func3
    (witness_row_atRef (enc := enc) (C := Tryz.checked) false (laidWorld os) #[zeroV, zeroV] rfl (by kernel_rfl) (by kernel_rfl) (by kernel_rfl)
      (OpenSpec.preRow_of_cond 8 hx (by kernel_rfl) (fun k hk => by cases hk) (by kernel_rfl) (laid_met os _))) ?_
  intro W base args ds gs before hval0 hW _ _ _ hL _ _
  exact contract H enc W base args ds gs before hval0 hW hL
end Go.Proofs.YteijbhmbmjffbaaGreatDoor
