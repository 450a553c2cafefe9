/-
  The law's body answers true, whatever the two verdicts.
-/
import Derived.Test.YteijbhmbmjffbaaGreatDoorBeside
import Derived.Test.YteijbhmbmjffbaaGreatDoorPlain
import Derived.Laws.StructEq
namespace Go.Proofs.YteijbhmbmjffbaaGreatDoor
open Go.RowKit Go.Lib Go.Sort
theorem text_lost (w : World) (ht : Tab w) : Calls Tryz.prog 5 #[.agg #[.int .i64 3, .int .u64 0, .int .i64 3]] w fun e w' => e = .returned (.string ⟨#[108, 111, 115, 116, 32, 119, 104, 121, 32, 51]⟩) ∧ Below w.heap.size w w' := by
  have e0 : low63 0 = 0 := by rw [low63_eq 0 (by omega) (by omega)]; rfl
  refine (text_any 3 0 3 (by omega) (by omega) (by omega) (by omega) w ht).mono fun e w' h => ⟨?_, h.2⟩
  rw [h.1]
  exact ret_str (by decide +kernel)
set_option maxRecDepth 100000 in
theorem alive_any (w : World) (ht : Tab w) : Calls Tryz.prog 4 #[] w fun e w' => e = .returned (.bool true) ∧ Below w.heap.size w w' := by
  go_enter Tryz.func4, Tryz.ntmps4
  go_wp2_with fail
  refine (beside_empty _ _).mono ?_
  rintro e w1 ⟨rfl, hb⟩
  unfold lostV
  have ht1 := Lib.hid ((ht.below hb).below (Below.alloc (Below.refl _ _) (Nat.le_refl _) (.cells #[.int .i64 3, .int .u64 0, .int .i64 3] 25)))
  have HB := Lib.hid hb
  clear hb ht
  go_wp2_with fail
  refine (text_lost _ ht1.out).mono ?_
  rintro e w2 ⟨rfl, hb2⟩
  have HB2 := Lib.hid (show Below w.heap.size w w2 from (HB.out.trans (Below.alloc (Below.refl _ _) HB.out.size _)).trans (hb2.mono (by have := HB.out.size; simp; omega)))
  clear hb2
  go_wp2
  go_ret
  exact ⟨rfl, HB2.out⟩

/-- The world with both verdicts' boxes. -/
def Two (w : World) (k1 a1 y1 k2 a2 y2 : Int) (w' : World) : Prop :=
  Below (w.heap.size + 2) ((w.alloc (.cells #[.int .i64 k1, .int .u64 a1, .int .i64 y1] 25)).alloc (.cells #[.int .i64 k2, .int .u64 a2, .int .i64 y2] 25)) w'
theorem Two.box1 {w w' : World} {k1 a1 y1 k2 a2 y2 : Int} (h : Two w k1 a1 y1 k2 a2 y2 w') : w'.heap[w.heap.size]? = some (.cells #[.int .i64 k1, .int .u64 a1, .int .i64 y1] 25 (0, 0)) := by
  rw [Below.block h w.heap.size (by omega), Below.heap_alloc _ _ _ (by simp), top_map]
theorem Two.box2 {w w' : World} {k1 a1 y1 k2 a2 y2 : Int} (h : Two w k1 a1 y1 k2 a2 y2 w') : w'.heap[w.heap.size + 1]? = some (.cells #[.int .i64 k2, .int .u64 a2, .int .i64 y2] 25 (0, 0)) := by
  rw [Below.block h (w.heap.size + 1) (by omega)]
  have := top_map (w.alloc (.cells #[.int .i64 k1, .int .u64 a1, .int .i64 y1] 25)) (.cells #[.int .i64 k2, .int .u64 a2, .int .i64 y2] 25)
  simpa using this
theorem Two.below {w w' : World} {k1 a1 y1 k2 a2 y2 : Int} (h : Two w k1 a1 y1 k2 a2 y2 w') : Below w.heap.size w w' :=
  (((Below.refl _ _).alloc (Nat.le_refl _) _).alloc (by simp) _).trans (Below.mono h (by omega))
theorem Two.trans {w w' w'' : World} {k1 a1 y1 k2 a2 y2 : Int} (h : Two w k1 a1 y1 k2 a2 y2 w') (hb : Below w'.heap.size w' w'') : Two w k1 a1 y1 k2 a2 y2 w'' :=
  Below.trans h (hb.mono (by have := Below.size h; simpa using this))
theorem Two.cells {w w' : World} {k1 a1 y1 k2 a2 y2 : Int} (h : Two w k1 a1 y1 k2 a2 y2 w') :
    w'.cell? ⟨w.heap.size, 0, none⟩ = some (.int .i64 k1) ∧ w'.cell? ⟨w.heap.size, 1, none⟩ = some (.int .u64 a1) ∧ w'.cell? ⟨w.heap.size, 2, none⟩ = some (.int .i64 y1) ∧
    w'.cell? ⟨w.heap.size + 1, 0, none⟩ = some (.int .i64 k2) ∧ w'.cell? ⟨w.heap.size + 1, 1, none⟩ = some (.int .u64 a2) ∧ w'.cell? ⟨w.heap.size + 1, 2, none⟩ = some (.int .i64 y2) := by
  have h1 := h.box1
  have h2 := h.box2
  refine ⟨?_, ?_, ?_, ?_, ?_, ?_⟩ <;> simp [World.cell?, h1, h2]
/-- The bounds of a verdict's moment and reason. -/
def Okv (a y : Int) : Prop := (0 ≤ a ∧ a < 18446744073709551616) ∧ -9223372036854775808 ≤ y ∧ y ≤ 9223372036854775807
theorem Okv.low {a y : Int} (h : Okv a y) : 0 ≤ low63 a ∧ low63 a ≤ 9223372036854775807 := by
  rw [low63_eq a h.1.1 h.1.2]; omega
theorem txt_any (k a y : Int) (h : Okv a y) (w : World) (ht : Tab w) :
    Calls Tryz.prog 5 #[.agg #[.int .i64 k, .int .u64 a, .int .i64 y]] w fun e w' => e = .returned (.string (txt k a y)) ∧ Below w.heap.size w w' := text_any k a y h.low.1 h.low.2 h.2.1 h.2.2 w ht
theorem ref_txt_any (k a y : Int) (h : Okv a y) (w : World) :
    Calls Tryz.prog 6 #[.agg #[.int .i64 k, .int .u64 a, .int .i64 y]] w fun e w' => e = .returned (.string (txt k a y)) ∧ Below w.heap.size w w' := ref_text_any k a y (rem63 a h.1.1 h.1.2) h.low.1 h.low.2 h.2.1 h.2.2 w
set_option maxHeartbeats 4000000 in
set_option maxRecDepth 100000 in
theorem law_any (k1 a1 y1 k2 a2 y2 : Int) (h1 : Okv a1 y1) (h2 : Okv a2 y2) (w : World) (ht : Tab w) :
    Calls Tryz.prog 3 #[.agg #[.int .i64 k1, .int .u64 a1, .int .i64 y1], .agg #[.int .i64 k2, .int .u64 a2, .int .i64 y2]] w fun e w' => e = .returned (.bool true) ∧ Below w.heap.size w w' := by
  have H1 := Lib.hid h1
  have H2 := Lib.hid h2
  clear h1 h2
  go_enter Tryz.func3, Tryz.ntmps3
  go_wp2_with fail
  refine (alive_any _ ((ht.below (Below.alloc (Below.refl _ _) (Nat.le_refl _) _)).below (Below.alloc (Below.refl _ _) (Nat.le_refl _) _))).mono ?_
  rintro e w1 ⟨rfl, hb⟩
  have HB : Hid (Two w k1 a1 y1 k2 a2 y2 w1) := Lib.hid (hb.mono (by simp))
  clear hb
  go_wp2_with fail
  refine wp_quiet_in (C := Two w k1 a1 y1 k2 a2 y2) (by kernel_rfl) (by kernel_rfl) (HB.out.trans (Below.refl _ _).drew) ?_
  refine wpQuiet_step (fun K hK => ?_)
  go_simp
  refine ⟨.agg #[.int .i64 k1, .int .u64 a1, .int .i64 y1], fun w' hw' => ?_, hK _ ?_⟩
  · obtain ⟨c1, c2, c3, _, _, _⟩ := hw'.cells
    simp [go_sem, c1, c2, c3]
  clear hK K
  refine wpQuiet_step (fun K hK => ?_)
  go_simp
  refine ⟨.string (txt k1 a1 y1), fun w' hw' => (txt_any _ _ _ H1.out _ (ht.below hw'.below)).mono fun e w'' h => ⟨h.1, hw'.trans h.2⟩, hK _ ?_⟩
  clear hK K
  refine wpQuiet_step (fun K hK => ?_)
  go_simp
  refine ⟨.agg #[.int .i64 k2, .int .u64 a2, .int .i64 y2], fun w' hw' => ?_, hK _ ?_⟩
  · obtain ⟨_, _, _, c1, c2, c3⟩ := hw'.cells
    simp [go_sem, c1, c2, c3]
  clear hK K
  refine wpQuiet_step (fun K hK => ?_)
  go_simp
  refine ⟨.string (txt k2 a2 y2), fun w' hw' => (txt_any _ _ _ H2.out _ (ht.below hw'.below)).mono fun e w'' h => ⟨h.1, hw'.trans h.2⟩, hK _ ?_⟩
  clear hK K
  refine wpQuiet_step (fun K hK => ?_)
  go_simp
  refine ⟨_, fun w' hw' => rfl, hK _ ?_⟩
  clear hK K
  refine wpQuiet_step (fun K hK => ?_)
  go_simp
  refine ⟨_, fun w' hw' => rfl, hK _ ?_⟩
  clear hK K
  refine wpQuiet_nil ?_
  intro w2 hw2
  have HB2 := Lib.hid hw2
  obtain ⟨c1, c2, c3, c4, c5, c6⟩ := hw2.cells
  clear hw2
  go_wp2_with fail
  refine (ref_txt_any _ _ _ H1.out _).mono ?_
  rintro e w3 ⟨rfl, hb3⟩
  have HB3 := Lib.hid (HB2.out.trans hb3)
  clear hb3 c1 c2 c3 c4 c5 c6
  obtain ⟨c1, c2, c3, c4, c5, c6⟩ := HB3.out.cells
  go_wp2_with fail
  refine (ref_txt_any _ _ _ H2.out _).mono ?_
  rintro e w4 ⟨rfl, hb4⟩
  have HB4 := Lib.hid (HB3.out.trans hb4)
  clear hb4 c1 c2 c3 c4 c5 c6
  obtain ⟨c1, c2, c3, c4, c5, c6⟩ := HB4.out.cells
  have D : (k1 = 1 ∨ k1 = 2 ∨ k1 = 3) → (k2 = 1 ∨ k2 = 2 ∨ k2 = 3) → a1 < 9223372036854775808 → a2 < 9223372036854775808 → ¬ (k1 = k2 ∧ (k1 ≠ 3 → a1 = a2) ∧ (k1 ≠ 1 → y1 = y2)) → ((txt k1 a1 y1).toList == (txt k2 a2 y2).toList) = false :=
    fun q1 q2 q3 q4 q5 => txt_diff k1 a1 y1 k2 a2 y2 q1 q2 ⟨H1.out.1.1, q3⟩ ⟨H2.out.1.1, q4⟩ q5
  have E : k1 = k2 → a1 = a2 → y1 = y2 → ((txt k1 a1 y1).toList == (txt k2 a2 y2).toList) = true := fun q1 q2 q3 => by rw [q1, q2, q3]; exact beq_self_eq_true _
  have D := Lib.hid D
  have E := Lib.hid E
  generalize txt k1 a1 y1 = s at D E ⊢
  generalize txt k2 a2 y2 = t at D E ⊢
  by_cases hk1 : k1 < 1
  · go_wp2
    go_ret
    exact ⟨rfl, HB4.out.below⟩
  by_cases hk2 : 3 < k1
  · go_wp2
    go_ret
    exact ⟨rfl, HB4.out.below⟩
  by_cases hk3 : k2 < 1
  · go_wp2
    go_ret
    exact ⟨rfl, HB4.out.below⟩
  by_cases hk4 : 3 < k2
  · go_wp2
    go_ret
    exact ⟨rfl, HB4.out.below⟩
  by_cases ha1 : 9223372036854775808 ≤ a1
  · go_wp2
    go_ret
    exact ⟨rfl, HB4.out.below⟩
  by_cases ha2 : 9223372036854775808 ≤ a2
  · go_wp2
    go_ret
    exact ⟨rfl, HB4.out.below⟩
  have e1 : k1 = 1 ∨ k1 = 2 ∨ k1 = 3 := by omega
  have e2 : k2 = 1 ∨ k2 = 2 ∨ k2 = 3 := by omega
  have D2 := Lib.hid (D.out e1 e2 (by omega) (by omega))
  clear hk1 hk2 hk3 hk4 D
  rcases e1 with rfl | rfl | rfl
  · rcases e2 with rfl | rfl | rfl
    · by_cases z1 : y1 = 0
      · subst z1
        by_cases z2 : y2 = 0
        · subst z2
          by_cases q : a1 = a2
          · subst q
            have hs := E.out rfl rfl rfl
            go_wp2
            go_ret
            exact ⟨rfl, HB4.out.below⟩
          · have hs := D2.out (by omega)
            go_wp2
            go_ret
            exact ⟨rfl, HB4.out.below⟩
        · go_wp2
          go_ret
          exact ⟨rfl, HB4.out.below⟩
      · go_wp2
        go_ret
        exact ⟨rfl, HB4.out.below⟩
    · by_cases z1 : y1 = 0
      · subst z1
        have hs := D2.out (by omega)
        go_wp2
        go_ret
        exact ⟨rfl, HB4.out.below⟩
      · go_wp2
        go_ret
        exact ⟨rfl, HB4.out.below⟩
    · by_cases z1 : y1 = 0
      · subst z1
        by_cases z4 : a2 = 0
        · subst z4
          have hs := D2.out (by omega)
          go_wp2
          go_ret
          exact ⟨rfl, HB4.out.below⟩
        · go_wp2
          go_ret
          exact ⟨rfl, HB4.out.below⟩
      · go_wp2
        go_ret
        exact ⟨rfl, HB4.out.below⟩
  · rcases e2 with rfl | rfl | rfl
    · by_cases z2 : y2 = 0
      · subst z2
        have hs := D2.out (by omega)
        go_wp2
        go_ret
        exact ⟨rfl, HB4.out.below⟩
      · go_wp2
        go_ret
        exact ⟨rfl, HB4.out.below⟩
    · by_cases q : a1 = a2
      · subst q
        by_cases q2 : y1 = y2
        · subst q2
          have hs := E.out rfl rfl rfl
          go_wp2
          go_ret
          exact ⟨rfl, HB4.out.below⟩
        · have hs := D2.out (by omega)
          go_wp2
          go_ret
          exact ⟨rfl, HB4.out.below⟩
      · have hs := D2.out (by omega)
        go_wp2
        go_ret
        exact ⟨rfl, HB4.out.below⟩
    · by_cases z4 : a2 = 0
      · subst z4
        have hs := D2.out (by omega)
        go_wp2
        go_ret
        exact ⟨rfl, HB4.out.below⟩
      · go_wp2
        go_ret
        exact ⟨rfl, HB4.out.below⟩
  · rcases e2 with rfl | rfl | rfl
    · by_cases z2 : y2 = 0
      · subst z2
        by_cases z3 : a1 = 0
        · subst z3
          have hs := D2.out (by omega)
          go_wp2
          go_ret
          exact ⟨rfl, HB4.out.below⟩
        · go_wp2
          go_ret
          exact ⟨rfl, HB4.out.below⟩
      · go_wp2
        go_ret
        exact ⟨rfl, HB4.out.below⟩
    · by_cases z3 : a1 = 0
      · subst z3
        have hs := D2.out (by omega)
        go_wp2
        go_ret
        exact ⟨rfl, HB4.out.below⟩
      · go_wp2
        go_ret
        exact ⟨rfl, HB4.out.below⟩
    · by_cases z3 : a1 = 0
      · subst z3
        by_cases z4 : a2 = 0
        · subst z4
          by_cases q : y1 = y2
          · subst q
            have hs := E.out rfl rfl rfl
            go_wp2
            go_ret
            exact ⟨rfl, HB4.out.below⟩
          · have hs := D2.out (by omega)
            go_wp2
            go_ret
            exact ⟨rfl, HB4.out.below⟩
        · go_wp2
          go_ret
          exact ⟨rfl, HB4.out.below⟩
      · go_wp2
        go_ret
        exact ⟨rfl, HB4.out.below⟩
end Go.Proofs.YteijbhmbmjffbaaGreatDoor
