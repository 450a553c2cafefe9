/-
  A verdict's text: the program's and the reference's.
-/
import Derived.Test.YteijbhmbmjffbaaGreatDoorDec
import Derived.Deep.QuietTactic
import Derived.BigQuiet
namespace Go.Proofs.YteijbhmbmjffbaaGreatDoor
open Go.RowKit Go.Lib Go.Sort

theorem wp_quiet_in {P : Program} {C : World → Prop} {id : Nat} {Q : Exit → Act → World → Prop} {a : Act} {w : World} {l : List Oper} (hm : P.follows .mixedOrders = true) (hB : Region.lexB .any l.toArray = true)
    (hC : C { w with drawn := w.drawn + 1 }) (h : wpQuiet P l.toArray C (fun a' => ∀ w', C w' → Q .normal a' w') l a) : (Code.region id l.toArray true).wp P Q a w :=
  wp_region_quiet (C := C) hm hB hC (by simpa using h)

theorem Tab.below {w w' : World} (ht : Tab w) (hb : Below w.heap.size w w') : Tab w' :=
  Joins.tab_stays (P := Tryz.prog) (g := 0) (by kernel_rfl) ht hb (Nat.le_refl _)

def low63 (a : Int) : Int := bits .and .u64 a 9223372036854775807

/-- The world with the verdict's box. -/
def Boxed (w : World) (k a y : Int) (w' : World) : Prop := Below (w.heap.size + 1) (w.alloc (.cells #[.int .i64 k, .int .u64 a, .int .i64 y] 25)) w'

theorem Boxed.cell0 {w w' : World} {k a y : Int} (h : Boxed w k a y w') : w'.cell? ⟨w.heap.size, 0, none⟩ = some (.int .i64 k) := by
  rw [Below.cell h (p := ⟨w.heap.size, 0, none⟩) (by simp), World.cell?_alloc_new]; rfl
theorem Boxed.cell1 {w w' : World} {k a y : Int} (h : Boxed w k a y w') : w'.cell? ⟨w.heap.size, 1, none⟩ = some (.int .u64 a) := by
  rw [Below.cell h (p := ⟨w.heap.size, 1, none⟩) (by simp), World.cell?_alloc_new]; rfl
theorem Boxed.cell2 {w w' : World} {k a y : Int} (h : Boxed w k a y w') : w'.cell? ⟨w.heap.size, 2, none⟩ = some (.int .i64 y) := by
  rw [Below.cell h (p := ⟨w.heap.size, 2, none⟩) (by simp), World.cell?_alloc_new]; rfl
theorem Boxed.below {w w' : World} {k a y : Int} (h : Boxed w k a y w') : Below w.heap.size w w' :=
  ((Below.refl _ _).alloc (Nat.le_refl _) _).trans (Below.mono h (by omega))

theorem Boxed.trans {w w' w'' : World} {k a y : Int} (h : Boxed w k a y w') (hb : Below w'.heap.size w' w'') : Boxed w k a y w'' :=
  Below.trans h (hb.mono (by have := Below.size h; simpa using this))

theorem check_int (w : World) (b : Bool) (n : Int) : (Instr.checkKey b 10000 3 (.int .i64 n)).run Tryz.prog w = .ok () w := by
  show (Instr.checkKey b (9999 + 1) 3 (.int .i64 n)).run Tryz.prog w = .ok () w
  unfold Instr.checkKey
  simp [Sem.run_bind, Tryz.runUnderlying3, Result.andThen]
theorem top_map (w : World) (o : Obj) : (w.alloc o).heap[w.heap.size]? = some o := by
  show (w.heap.push o)[w.heap.size]? = some o
  simp
theorem get_top (w : World) (es : Array MapEntry) (c : Nat) : (getObj w.heap.size).run Tryz.prog (w.alloc (.map es c)) = .ok (.map es c) (w.alloc (.map es c)) := by
  simp only [getObj, Sem.run, top_map]
theorem set_top (w : World) (es : Array MapEntry) (c : Nat) (o' : Obj) : (setObj w.heap.size o').run Tryz.prog (w.alloc (.map es c)) = .ok () (w.alloc o') := by
  simp only [setObj, Sem.run, top_map]
  have : (w.alloc (.map es c)).heap.setIfInBounds w.heap.size o' = (w.alloc o').heap := by
    show (w.heap.push (.map es c)).setIfInBounds w.heap.size o' = w.heap.push o'
    apply Array.ext_getElem?
    intro i
    simp only [Array.getElem?_setIfInBounds, Array.getElem?_push, Array.size_push]
    by_cases h : w.heap.size = i
    · subst h; simp
    · rw [if_neg h, if_neg (fun e => h e.symm), if_neg (fun e => h e.symm)]
  rw [this]
  rfl
theorem run_insert (w : World) (es : Array MapEntry) (c : Nat) (n : Int) (v : Value) (hf : Instr.findNow (.int .i64) (.int .i64 n) es.toList 0 = some none) :
    (Instr.mapUpdate 40 (.map (some w.heap.size)) (.int .i64 n) v).run Tryz.prog (w.alloc (.map es c)) = .ok () (w.alloc (.map (es.push { key := .int .i64 n, val := v, born := c }) (c + 1))) := by
  unfold Instr.mapUpdate Instr.findKey
  simp only [Sem.run_bind, Tryz.runUnderlying40, Tryz.runUnderlying3, Result.andThen, get_top, check_int, hf, Sem.run_pure, set_top]
theorem run_look (w : World) (es : Array MapEntry) (c : Nat) (n : Int) (v : Option Value) (hf : (Instr.findNow (.int .i64) (.int .i64 n) es.toList 0).map (·.map (·.2)) = some v) :
    (Instr.lookup 40 (.map (some w.heap.size)) (.int .i64 n) false).run Tryz.prog (w.alloc (.map es c)) = .ok (v.getD (.string ByteArray.empty)) (w.alloc (.map es c)) := by
  unfold Instr.lookup Instr.findKey
  cases hx : Instr.findNow (.int .i64) (.int .i64 n) es.toList 0 with
  | none => rw [hx] at hf; cases hf
  | some r =>
    rw [hx] at hf
    obtain rfl : r.map (·.2) = v := by simpa using hf
    cases r with
    | none =>
      simp only [Sem.run_bind, Tryz.runUnderlying40, Tryz.runUnderlying3, Result.andThen, get_top, check_int, hx, Sem.run_pure, Tryz.zeroValue9]
      rfl
    | some r =>
      simp only [Sem.run_bind, Tryz.runUnderlying40, Tryz.runUnderlying3, Result.andThen, get_top, check_int, hx, Sem.run_pure]
      rfl

/-- What the map of texts holds at a kind. -/
def pickV (k : Int) (v1 v2 v3 : Value) : Value := if k = 1 then v1 else if k = 2 then v2 else if k = 3 then v3 else .string ByteArray.empty
theorem ins1 (W : World) (v : Value) : (Instr.mapUpdate 40 (.map (some W.heap.size)) (.int .i64 1) v).run Tryz.prog (W.alloc (.map #[] 0)) = .ok () (W.alloc (.map #[⟨.int .i64 1, v, 0⟩] 1)) :=
  run_insert W #[] 0 1 v rfl
theorem ins2 (W : World) (v1 v : Value) : (Instr.mapUpdate 40 (.map (some W.heap.size)) (.int .i64 2) v).run Tryz.prog (W.alloc (.map #[⟨.int .i64 1, v1, 0⟩] 1)) = .ok () (W.alloc (.map #[⟨.int .i64 1, v1, 0⟩, ⟨.int .i64 2, v, 1⟩] 2)) :=
  run_insert W #[⟨.int .i64 1, v1, 0⟩] 1 2 v rfl
theorem ins3 (W : World) (v1 v2 v : Value) : (Instr.mapUpdate 40 (.map (some W.heap.size)) (.int .i64 3) v).run Tryz.prog (W.alloc (.map #[⟨.int .i64 1, v1, 0⟩, ⟨.int .i64 2, v2, 1⟩] 2)) = .ok () (W.alloc (.map #[⟨.int .i64 1, v1, 0⟩, ⟨.int .i64 2, v2, 1⟩, ⟨.int .i64 3, v, 2⟩] 3)) :=
  run_insert W #[⟨.int .i64 1, v1, 0⟩, ⟨.int .i64 2, v2, 1⟩] 2 3 v rfl
theorem look3 (W : World) (v1 v2 v3 : Value) (k : Int) : (Instr.lookup 40 (.map (some W.heap.size)) (.int .i64 k) false).run Tryz.prog (W.alloc (.map #[⟨.int .i64 1, v1, 0⟩, ⟨.int .i64 2, v2, 1⟩, ⟨.int .i64 3, v3, 2⟩] 3)) = .ok (pickV k v1 v2 v3) (W.alloc (.map #[⟨.int .i64 1, v1, 0⟩, ⟨.int .i64 2, v2, 1⟩, ⟨.int .i64 3, v3, 2⟩] 3)) := by
  have e1 : ∀ j : Int, Instr.sameNow (.int .i64) (.int .i64 k) (.int .i64 j) = some (k == j) := fun _ => rfl
  unfold pickV
  by_cases h1 : k = 1
  · subst h1; exact run_look W _ 3 1 (some v1) rfl
  · have f1 : (k == 1) = false := by simpa using h1
    by_cases h2 : k = 2
    · subst h2; exact run_look W _ 3 2 (some v2) rfl
    · have f2 : (k == 2) = false := by simpa using h2
      by_cases h3 : k = 3
      · subst h3; exact run_look W _ 3 3 (some v3) rfl
      · have f3 : (k == 3) = false := by simpa using h3
        rw [if_neg h1, if_neg h2, if_neg h3]
        exact run_look W _ 3 k none (by simp [Instr.findNow, e1, f1, f2, f3])

/-- A verdict's text, out of its kind and the two numerals. -/
def textS (k : Int) (s1 s2 : ByteArray) : ByteArray :=
  if k = 1 then (⟨#[97, 108, 105, 107, 101, 32]⟩ : ByteArray) ++ s1
  else if k = 2 then (⟨#[111, 116, 104, 101, 114, 32, 97, 116, 32]⟩ : ByteArray) ++ s1 ++ (⟨#[32, 119, 104, 121, 32]⟩ : ByteArray) ++ s2
  else if k = 3 then (⟨#[108, 111, 115, 116, 32, 119, 104, 121, 32]⟩ : ByteArray) ++ s2
  else ByteArray.empty
theorem pick_text (k : Int) (s1 s2 : ByteArray) : pickV k (.string ((⟨#[97, 108, 105, 107, 101, 32]⟩ : ByteArray) ++ s1)) (.string ((⟨#[111, 116, 104, 101, 114, 32, 97, 116, 32]⟩ : ByteArray) ++ s1 ++ (⟨#[32, 119, 104, 121, 32]⟩ : ByteArray) ++ s2)) (.string ((⟨#[108, 111, 115, 116, 32, 119, 104, 121, 32]⟩ : ByteArray) ++ s2)) = .string (textS k s1 s2) := by
  unfold pickV textS
  split
  · rfl
  · split
    · rfl
    · split <;> rfl

set_option maxRecDepth 100000 in
theorem text_any (k a y : Int) (ha0 : 0 ≤ low63 a) (ha1 : low63 a ≤ 9223372036854775807) (hy0 : -9223372036854775808 ≤ y) (hy1 : y ≤ 9223372036854775807) (w : World) (ht : Tab w) :
    Calls Tryz.prog 5 #[.agg #[.int .i64 k, .int .u64 a, .int .i64 y]] w fun e w' => e = .returned (.string (textS k (decS (low63 a)) (decS y))) ∧ Below w.heap.size w w' := by
  have hwr := Lib.hid (IntWalk.i64_in (low63 a) (by omega))
  have hs1 := decS_size (low63 a) (by omega) ha1
  have hs2 := decS_size y hy0 hy1
  have Ha := Lib.hid ha1
  have Hb := Lib.hid hy0
  have Hc := Lib.hid hy1
  clear ha1 hy0 hy1
  go_enter Tryz.func5, Tryz.ntmps5
  go_wp2_with fail
  refine wp_quiet_in (C := Boxed w k a y) (by kernel_rfl) (by kernel_rfl) (Below.refl _ _).drew ?_
  refine wpQuiet_step (fun K hK => ?_)
  go_simp
  refine ⟨_, fun w' hw' => rfl, hK _ ?_⟩
  clear hK K
  refine wpQuiet_step (fun K hK => ?_)
  go_simp
  refine ⟨_, fun w' hw' => by rw [hw'.cell1]; exact ⟨rfl, rfl⟩, hK _ ?_⟩
  clear hK K
  refine wpQuiet_step (fun K hK => ?_)
  go_simp
  refine ⟨.int .u64 (low63 a), fun w' hw' => rfl, hK _ ?_⟩
  clear hK K
  refine wpQuiet_step (fun K hK => ?_)
  go_simp
  refine ⟨.int .i64 (low63 a), fun w' hw' => by first | rfl | exact congrArg (Value.int .i64) hwr.out, hK _ ?_⟩
  clear hK K
  refine wpQuiet_step (fun K hK => ?_)
  go_simp
  refine ⟨.string (decS (low63 a)), fun w' hw' => (dec_any _ (by omega) Ha.out _ (ht.below hw'.below)).mono fun e w'' h => ⟨h.1, hw'.trans h.2⟩, hK _ ?_⟩
  clear hK K
  refine wpQuiet_step (fun K hK => ?_)
  go_simp
  refine ⟨_, fun w' hw' => rfl, hK _ ?_⟩
  clear hK K
  refine wpQuiet_step (fun K hK => ?_)
  go_simp
  refine ⟨_, fun w' hw' => by rw [hw'.cell2]; exact ⟨rfl, rfl⟩, hK _ ?_⟩
  clear hK K
  refine wpQuiet_step (fun K hK => ?_)
  go_simp
  refine ⟨.string (decS y), fun w' hw' => (dec_any _ Hb.out Hc.out _ (ht.below hw'.below)).mono fun e w'' h => ⟨h.1, hw'.trans h.2⟩, hK _ ?_⟩
  clear hK K
  refine wpQuiet_step (fun K hK => ?_)
  go_simp
  refine ⟨_, fun w' hw' => rfl, hK _ ?_⟩
  clear hK K
  refine wpQuiet_step (fun K hK => ?_)
  go_simp
  refine ⟨_, fun w' hw' => rfl, hK _ ?_⟩
  clear hK K
  refine wpQuiet_nil ?_
  intro w1 hw1
  have c0 : ∀ o, (w1.alloc o).cell? ⟨w.heap.size, 0, none⟩ = some (.int .i64 k) := fun o => Boxed.cell0 (a := a) (y := y) (hw1.trans ((Below.refl _ _).alloc (Nat.le_refl _) o))
  have HW := Lib.hid hw1
  have hmm := @run_makeMap Tryz.prog
  have hi1 := ins1; have hi2 := ins2; have hi3 := ins3; have hi4 := look3
  clear hw1
  go_wp2
  go_ret
  exact ⟨congrArg Ending.returned (pick_text _ _ _), (HW.out.below).trans ((Below.refl _ _).alloc HW.out.below.size _)⟩
end Go.Proofs.YteijbhmbmjffbaaGreatDoor
