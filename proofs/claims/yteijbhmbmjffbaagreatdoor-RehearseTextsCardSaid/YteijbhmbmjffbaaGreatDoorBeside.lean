/-
  The chapter's example: an image without anything is lost.
-/
import Derived.Test.YteijbhmbmjffbaaGreatDoorRest
import Derived.Deep.WholeRow
namespace Go.Proofs.YteijbhmbmjffbaaGreatDoor
open Go.RowKit Go.Lib Go.Sort
set_option maxRecDepth 100000 in
theorem machine_empty (w : World) : Calls Tryz.prog 10 #[.agg #[.slice none 0 0, .slice none 0 0, .string ByteArray.empty]] w fun e w' => e = .returned (.tuple #[.agg zeroM, .int .i64 3]) ∧ Below w.heap.size w w' := by
  go_enter Tryz.func10, Tryz.ntmps10
  go_wp2_with fail
  refine (rest_empty _).mono ?_
  rintro e w1 ⟨rfl, hb⟩
  have hsz : w.heap.size + 1 < w1.heap.size := by have := hb.size; simp at this; omega
  have hB1 : w1.heap[w.heap.size + 1]? = some (.cells zeroM 47 (0, 0)) := by
    rw [hb.block (w.heap.size + 1) (by simp)]
    have := top_map (w.alloc (.cells #[.slice none 0 0, .slice none 0 0, .string ByteArray.empty] 32)) (.cells zeroM 47)
    simpa [zeroM] using this
  have hR1 := (setRow_same (w1.alloc (.cells zeroM 47)) w1.heap.size zeroM 47 (top_map w1 _))
  have hX1 := (top_map w1 (.cells zeroM 47))
  have hX2 := (show (w1.alloc (.cells zeroM 47)).heap[w.heap.size + 1]? = some (.cells zeroM 47 (0, 0)) by rw [Below.heap_alloc _ _ _ hsz]; exact hB1)
  have hR2 := (setRow_same (w1.alloc (.cells zeroM 47)) (w.heap.size + 1) zeroM 47 hX2)
  simp only [zeroM] at hR1 hX1 hX2 hR2
  have hR1 := Lib.hid hR1
  have hX1 := Lib.hid hX1
  have hX2 := Lib.hid hX2
  have hR2 := Lib.hid hR2
  have hbw := Lib.hid (show Below w.heap.size w w1 from (((Below.refl _ _).alloc (Nat.le_refl _) _).alloc (by simp) _).trans (hb.mono (by simp; omega)))
  clear hB1 hb
  unfold zeroM
  go_wp2_with (first
    | (refine wpList_store_row rfl 47 (.tmp 4) (.tmp 11) rfl w1.heap.size _ rfl rfl 47 _ hX1.out (by kernel_rfl) rfl (by kernel_rfl) ?_; rw [hR1.out])
    | (refine wpList_store_row rfl 47 (.tmp 2) (.tmp 15) rfl (w.heap.size + 1) _ rfl rfl 47 _ hX2.out (by kernel_rfl) rfl (by kernel_rfl) ?_; rw [hR2.out]))
  refine bodyPost_ret (v := .tuple #[.agg zeroM, .int .i64 3]) ?_ rfl ⟨rfl, hbw.out.trans ((Below.refl _ _).alloc hbw.out.size _)⟩
  have hx := hX2.out
  simp [results, Tryz.results10, go_sem, World.cell?, hx, zeroM]
def lostV (e : Int) : Value := .agg #[.int .i64 3, .int .u64 0, .int .i64 e]
theorem lost_any (e : Int) (w : World) : Calls Tryz.prog 11 #[.int .i64 e] w fun r w' => r = .returned (lostV e) ∧ Below w.heap.size w w' := by
  go_enter Tryz.func11, Tryz.ntmps11
  go_wp2
  refine bodyPost_ret (v := lostV e) ?_ rfl ⟨rfl, (Below.refl _ _).alloc (Nat.le_refl _) _⟩
  simp [results, Tryz.results11, go_sem, lostV]

set_option maxRecDepth 100000 in
theorem beside_empty (ts : Array Value) (w : World) : Calls Tryz.prog 7 #[.agg #[.slice none 0 0, .slice none 0 0, .string ByteArray.empty], .agg ts] w fun e w' => e = .returned (lostV 3) ∧ Below w.heap.size w w' := by
  go_enter Tryz.func7, Tryz.ntmps7
  go_wp2_with fail
  refine (machine_empty _).mono ?_
  rintro e w1 ⟨rfl, hb⟩
  have hsz : w.heap.size + 2 < w1.heap.size := by have := hb.size; simp at this; omega
  have hB1 : w1.heap[w.heap.size + 2]? = some (.cells #[.int .i64 0, .int .u64 0, .int .i64 0] 25 (0, 0)) := by
    rw [hb.block (w.heap.size + 2) (by simp)]
    have := top_map ((w.alloc (.cells #[.slice none 0 0, .slice none 0 0, .string ByteArray.empty] 32)).alloc (.cells ts 38)) (.cells #[.int .i64 0, .int .u64 0, .int .i64 0] 25)
    simpa using this
  have hR1 := (setRow_same (w1.alloc (.cells zeroM 47)) w1.heap.size zeroM 47 (top_map w1 _))
  have hX1 := (top_map w1 (.cells zeroM 47))
  have hbw := Lib.hid (show Below w.heap.size w w1 from ((((Below.refl _ _).alloc (Nat.le_refl _) _).alloc (by simp) _).alloc (by simp; omega) _).trans (hb.mono (by simp; omega)))
  simp only [zeroM] at hR1 hX1
  have hR1 := Lib.hid hR1
  have hX1 := Lib.hid hX1
  have HB := Lib.hid hB1
  clear hB1 hb
  unfold zeroM
  go_wp2_with (refine wpList_store_row rfl 47 (.tmp 5) (.tmp 12) rfl w1.heap.size _ rfl rfl 47 _ hX1.out (by kernel_rfl) rfl (by kernel_rfl) ?_; rw [hR1.out])
  refine (lost_any 3 _).mono ?_
  rintro e w2 ⟨rfl, hb2⟩
  have hsz2 : w.heap.size + 2 < w2.heap.size := by have := hb2.size; simp at this; omega
  have hX3 := Lib.hid (show w2.heap[w.heap.size + 2]? = some (.cells #[.int .i64 0, .int .u64 0, .int .i64 0] 25 (0, 0)) by
    rw [hb2.block (w.heap.size + 2) (by simp; omega), Below.heap_alloc _ _ _ hsz]; exact HB.out)
  have hbw2 := Lib.hid (show Below w.heap.size w w2 from (hbw.out.trans ((Below.refl _ _).alloc hbw.out.size _)).trans (hb2.mono (by have := hbw.out.size; simp; omega)))
  clear hb2
  unfold lostV
  go_wp2_with (refine wpList_store_row rfl 25 (.tmp 4) (.tmp 17) rfl (w.heap.size + 2) _ rfl rfl 25 _ hX3.out (by kernel_rfl) rfl (by kernel_rfl) ?_)
  have hx := setRow_heap w2 (w.heap.size + 2) _ #[.int .i64 3, .int .u64 0, .int .i64 3] 25 _ hX3.out
  refine bodyPost_ret (v := lostV 3) ?_ rfl ⟨rfl, ?_⟩
  · simp [results, Tryz.results7, go_sem, World.cell?, hx, lostV]
  · refine hbw2.out.trans ⟨rfl, rfl, rfl, by simp, fun k hk => setRow_other _ _ _ _ (by omega)⟩
end Go.Proofs.YteijbhmbmjffbaaGreatDoor
