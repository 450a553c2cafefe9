/-
  The reference's text of a verdict is the program's.
-/
import Derived.Test.YteijbhmbmjffbaaGreatDoorText
namespace Go.Proofs.YteijbhmbmjffbaaGreatDoor
open Go.RowKit Go.Lib Go.Sort
theorem low63_eq (a : Int) (h0 : 0 ≤ a) (h1 : a < 18446744073709551616) : low63 a = a % 9223372036854775808 := by
  obtain ⟨n, rfl⟩ := Int.eq_ofNat_of_zero_le h0
  have hn : n < 18446744073709551616 := by omega
  have e : (BitVec.ofInt 64 (n : Int) &&& BitVec.ofInt 64 9223372036854775807).toNat = n % 9223372036854775808 := by
    rw [BitVec.toNat_and, BitVec.ofInt_natCast, BitVec.toNat_ofNat, Nat.mod_eq_of_lt (show n < 2 ^ 64 by omega)]
    have : (BitVec.ofInt 64 9223372036854775807).toNat = 2 ^ 63 - 1 := by decide
    rw [this, Nat.and_two_pow_sub_one_eq_mod]
  have e2 : low63 (n : Int) = IntKind.u64.wrap (((BitVec.ofInt 64 (n : Int) &&& BitVec.ofInt 64 9223372036854775807).toNat : Nat) : Int) := rfl
  rw [e2, e, IntKind.wrap_u64]
  omega
theorem rem63 (a : Int) (h0 : 0 ≤ a) (h1 : a < 18446744073709551616) : wrap64 (a.tmod 9223372036854775808) = low63 a := by
  rw [low63_eq a h0 h1, Int.tmod_eq_emod_of_nonneg h0]
  unfold wrap64
  omega
set_option maxRecDepth 100000 in
theorem ref_text_any (k a y : Int) (hrem : wrap64 (a.tmod 9223372036854775808) = low63 a) (ha0 : 0 ≤ low63 a) (ha1 : low63 a ≤ 9223372036854775807) (hy0 : -9223372036854775808 ≤ y) (hy1 : y ≤ 9223372036854775807) (w : World) :
    Calls Tryz.prog 6 #[.agg #[.int .i64 k, .int .u64 a, .int .i64 y]] w fun e w' => e = .returned (.string (textS k (decS (low63 a)) (decS y))) ∧ Below w.heap.size w w' := by
  have hs1 := decS_size (low63 a) (by omega) ha1
  have hs2 := decS_size y hy0 hy1
  have D1 := Lib.hid (ref_dec_any _ (low63 a) (Nat.le_refl _) (by omega) ha1)
  have D2 := Lib.hid (ref_dec_any _ y (Nat.le_refl _) hy0 hy1)
  have Hr := Lib.hid hrem
  clear ha1 hy0 hy1 hrem ha0
  go_enter Tryz.func6, Tryz.ntmps6
  go_wp2_with fail
  rw [Hr.out]
  generalize a.tmod 9223372036854775808 = q
  refine (D1.out _).mono ?_
  rintro e w1 ⟨rfl, hw1⟩
  have HB : Boxed w k a y w1 := hw1.mono (by simp)
  have c1 := HB.cell2
  have c0 := HB.cell0
  clear hw1
  have HX := Lib.hid HB
  clear HB
  go_wp2_with fail
  refine (D2.out _).mono ?_
  rintro e w2 ⟨rfl, hw2⟩
  have HB2 := HX.out.trans hw2
  have c2 := HB2.cell0
  have HY := Lib.hid HB2
  clear HB2 hw2
  by_cases h1 : k = 1
  · subst h1
    go_wp2
    go_ret
    exact ⟨rfl, HY.out.below⟩
  by_cases h2 : k = 2
  · subst h2
    go_wp2
    go_ret
    exact ⟨rfl, HY.out.below⟩
  by_cases h3 : k = 3
  · subst h3
    go_wp2
    go_ret
    exact ⟨rfl, HY.out.below⟩
  have hfin := Lib.hid (show textS k (decS (low63 a)) (decS y) = ByteArray.empty by unfold textS; rw [if_neg h1, if_neg h2, if_neg h3])
  go_wp2
  go_ret
  exact ⟨ret_str hfin.out.symm, HY.out.below⟩
end Go.Proofs.YteijbhmbmjffbaaGreatDoor
