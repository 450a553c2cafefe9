/-
  An image without anything is no machine: the panic is caught.
-/
import Derived.Test.YteijbhmbmjffbaaGreatDoorRefText
import Derived.LoopN
import Derived.LoopTactic
import Derived.Defers
import Derived.Recover
namespace Go.Proofs.YteijbhmbmjffbaaGreatDoor
open Go.RowKit Go.Lib Go.Sort
theorem texts_empty (w : World) : Calls Tryz.prog 67 #[.string ByteArray.empty] w fun e w' => e = .returned (.tuple #[.slice none 0 0, .int .i64 0]) ∧ w = w' := by
  go_enter Tryz.func67, Tryz.ntmps67
  go_wp2
  refine wp_loop_rounds 1 ?_
  rw [rounds_succ]
  go_wp2
  go_ret2
  exact ⟨rfl, rfl⟩
theorem cursor_text_empty (b : Nat) (w : World) (hc : w.cell? ⟨b, 0, none⟩ = some (.slice none 0 0)) :
    Calls Tryz.prog 26 #[.pointer (some ⟨b, 0, none⟩)] w fun e w' => e = .panicked [{ v := .iface 68 (.agg #[]), recovered := false }] ∧ w = w' := by
  go_enter Tryz.func26, Tryz.ntmps26
  go_wp2
  exact ⟨rfl, rfl, rfl⟩
theorem open_empty (w : World) : Calls Tryz.prog 25 #[.string ByteArray.empty] w fun e w' => e = .returned (.pointer (some ⟨w.heap.size, 0, none⟩)) ∧ w' = w.alloc (.cells #[.slice none 0 0] 133) := by
  go_enter Tryz.func25, Tryz.ntmps25
  go_wp2_with (go_at_call 67; refine (texts_empty _).mono ?_; rintro e w' ⟨rfl, rfl⟩)
  go_ret
  exact ⟨rfl, rfl⟩
def zeroM : Array Value := #[.int .u64 0, .int .i64 0, .int .i64 0, .int .i64 0, .slice none 0 0, .slice none 0 0, .int .i64 0, .string ⟨#[]⟩, .slice none 0 0, .int .i64 0, .string ⟨#[]⟩, .bool false, .int .u64 0, .slice none 0 0, .slice none 0 0, .int .i64 0, .slice none 0 0]
theorem zeroM_one : (zeroM.all (·.oneCell')) = true := by decide +kernel
/-- The machine's variable and the truth's, as they lie at the door. -/
def Door (b : Nat) (w : World) : Prop := w.heap[b]? = some (.cells zeroM 47 (0, 0)) ∧ w.heap[b + 1]? = some (.cells #[.bool false] 4 (0, 0)) ∧ b + 1 < w.heap.size
theorem setRow_same (W : World) (g : Nat) (cur : Array Value) (t : TypeId) (h : W.heap[g]? = some (.cells cur t (0, 0))) : W.setRow g cur = W := by
  have hlt : g < W.heap.size := (Array.getElem?_eq_some_iff.1 h).1
  have hv : W.heap[g] = .cells cur t (0, 0) := (Array.getElem?_eq_some_iff.1 h).2
  unfold World.setRow
  cases W with
  | mk heap tape drawn os output =>
    congr 1
    apply Array.ext
    · simp
    · intro k h1 h2
      simp only [Array.getElem_modify]
      split
      · rename_i e; subst e; simp only at hv; rw [hv]
      · rfl
set_option maxRecDepth 100000 in
theorem rest_caught (b : Nat) (w : World) (hd : Door b w) :
    CallsD Tryz.prog 24 #[.pointer (some ⟨b, 0, none⟩), .pointer (some ⟨b + 1, 0, none⟩)] (.panicking ({ v := .iface 68 (.agg #[]), recovered := false } :: [])) w fun e u' w' =>
      e = .returned (.tuple #[]) ∧ u' = .panicking ({ v := .iface 68 (.agg #[]), recovered := true } :: []) ∧ w' = (w.alloc (.cells #[] 68)).setCell ⟨b + 1, 0, none⟩ (.bool false) := by
  refine callsD_of_wpS Tryz.func24 rfl fun c₀ cs hu => ?_
  apply wpS_seq
  apply wpS_region
  simp [wpOpsS, go_sem, recoverD, hu, Tryz.ntmps24, Exit.thenS]
  refine wpS_of_wp ?_
  have ht : #[Value.pointer (some { block := b, off := 0 }), Value.pointer (some { block := b + 1, off := 0 })] ++ ((Array.replicate 15 undef).setIfInBounds 3 (Value.iface 68 (Value.agg #[]))).setIfInBounds 0 (Value.iface 68 (Value.agg #[])) = #[Value.pointer (some { block := b, off := 0 }), Value.pointer (some { block := b + 1, off := 0 }), Value.iface 68 (Value.agg #[]), undef, undef, Value.iface 68 (Value.agg #[]), undef, undef, undef, undef, undef, undef, undef, undef, undef, undef, undef] := rfl
  rw [ht]
  clear ht
  have hta : ∀ w, (Instr.typeAssert (.iface 68 (.agg #[])) 20 68 true).run Tryz.prog w = .ok (.tuple #[.agg #[], .bool true]) w := fun _ => by kernel_rfl
  have hb1 : (w.alloc (.cells #[] 68)).heap[b]? = some (.cells zeroM 47 (0, 0)) := by rw [Below.heap_alloc _ _ _ (by have := hd.2.2; omega)]; exact hd.1
  have hb2 : (w.alloc (.cells #[] 68)).heap[b + 1]? = some (.cells #[.bool false] 4 (0, 0)) := by rw [Below.heap_alloc _ _ _ hd.2.2]; exact hd.2.1
  have hc2 : (w.alloc (.cells #[] 68)).cell? ⟨b + 1, 0, none⟩ = some (.bool false) := by simp [World.cell?, hb2]
  have hz2 : (w.alloc (.cells #[] 68)).frozen? ⟨b + 1, 0, none⟩ = false := by simp [World.frozen?, hb2]
  have Hd := Lib.hid hd
  have hrow := Lib.hid (setRow_same _ b zeroM 47 hb1)
  have hb1' := Lib.hid hb1
  clear hb1 hb2 hd
  go_wp2_with ((refine wpList_store_row rfl 47 (.tmp 0) (.tmp 16) rfl b zeroM rfl rfl 47 zeroM hb1'.out (by kernel_rfl) rfl zeroM_one ?_); rw [hrow.out])
  simp [bodyPostS, results, Tryz.results24]
theorem heap3_0 (w : World) (o1 o2 o3 : Obj) : (((w.alloc o1).alloc o2).alloc o3).heap[w.heap.size]? = some o1 := by
  rw [Below.heap_alloc _ _ _ (by simp; omega), Below.heap_alloc _ _ _ (by simp), top_map]
theorem heap3_1 (w : World) (o1 o2 o3 : Obj) : (((w.alloc o1).alloc o2).alloc o3).heap[w.heap.size + 1]? = some o2 := by
  rw [Below.heap_alloc _ _ _ (by simp)]
  have := top_map (w.alloc o1) o2
  simpa using this
set_option maxRecDepth 100000 in
theorem rest_empty (w : World) : Calls Tryz.prog 14 #[.string ByteArray.empty] w fun e w' => e = .returned (.tuple #[.agg zeroM, .bool false]) ∧ Below w.heap.size w w' := by
  have hmf : ∀ (fn : Fn) (first cap : Array Value) (w : World), (Instr.makeFunc fn first cap).run Tryz.prog w = .ok (.func fn first cap) w := fun _ _ _ _ => rfl
  go_enter_defers Tryz.func14, Tryz.ntmps14
  go_wp2_with (go_at_call 25; refine (open_empty _).mono ?_; rintro e w' ⟨rfl, rfl⟩)
  refine (cursor_text_empty (w.heap.size + 1 + 1) _ (by simp [go_sem])).mono ?_
  rintro e w1 ⟨rfl, rfl⟩
  go_wp2
  refine leaves_cons (f := 24) (args := #[.pointer (some ⟨w.heap.size, 0, none⟩), .pointer (some ⟨w.heap.size + 1, 0, none⟩)]) (by simp) (by simp [go_sem]) ?_
  refine (rest_caught w.heap.size _ ⟨?_, ?_, ?_⟩).mono ?_
  · exact heap3_0 _ _ _ _
  · exact heap3_1 _ _ _ _
  · simp
  rintro e u' w'' ⟨rfl, rfl, rfl⟩
  simp [Leaves, settle, results, Tryz.results14, go_sem]
  refine ⟨rfl, ?_⟩
  refine Below.alloc ?_ (by simp; omega) _
  refine Below.alloc ?_ (by simp; omega) _
  refine Below.alloc ?_ (by simp) _
  refine Below.alloc ?_ (Nat.le_refl _) _
  exact Below.refl _ _
end Go.Proofs.YteijbhmbmjffbaaGreatDoor
