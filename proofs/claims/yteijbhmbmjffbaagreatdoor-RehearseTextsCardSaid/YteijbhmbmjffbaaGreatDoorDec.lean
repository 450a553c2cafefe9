/-
  num.Dec and the reference's Dec write a number's decimal numeral.
-/
import Derived.Test.YteijbhmbmjffbaaGreatDoorShelf
import Derived.WalkKit
import Derived.WalkLawsBesides
import Derived.WalkSpells
import Derived.WalkSmall
import Derived.Outline
import Derived.Lib.SmallJoins
import Derived.Lib.ItoaMem
import Derived.Lib.ItoaLen
import Derived.Lib.AppendIntMem
namespace Go.Proofs.YteijbhmbmjffbaaGreatDoor
open Go.RowKit Go.Lib Go.Sort

def Tab (w : World) : Prop := Lib.TabIs Tryz.prog w "internal/strconv.uint64pow10" .u64 Lib.pow10Tab

/-- A decimal numeral as a string. -/
def decS (n : Int) : ByteArray := ⟨(Lib.itoa n).toArray⟩

/-- num.Dec: the decimal numeral. -/
theorem dec_any (n : Int) (h0 : -9223372036854775808 ≤ n) (h1 : n ≤ 9223372036854775807) (w : World) (ht : Tab w) :
    Calls Tryz.prog 8 #[.int .i64 n] w fun e w' => e = .returned (.string (decS n)) ∧ Below w.heap.size w w' := by
  have H0 := Lib.hid h0; have H1 := Lib.hid h1
  clear h0 h1
  go_enter Tryz.func8, Tryz.ntmps8
  go_wp2_with (go_at_call 13; refine (Tryz.strconv_FormatInt_10 n H0.out H1.out _ ht).mono ?_; rintro e w' ⟨rfl, k, os, rfl⟩)
  go_ret
  exact ⟨rfl, Lib.below_grow _ _ (Nat.le_refl _) _ _⟩

/-- What the reference's Dec is shown to do. -/
def DecAt (n : Int) : Prop := ∀ w, Calls Tryz.prog 9 #[.int .i64 n] w fun e w' => e = .returned (.string (decS n)) ∧ Below w.heap.size w w'

theorem conv_one (w : World) (x : Int) : (convert 54 9 (.slice (some ⟨w.heap.size, 0, none⟩) 1 1)).run Tryz.prog (w.alloc (.cells #[.int .u8 x] 5)) = .ok (.string (strOfNums [x])) (w.alloc (.cells #[.int .u8 x] 5)) :=
  run_convert_bytes_arg (P := Tryz.prog) (w.alloc (.cells #[.int .u8 x] 5)) 54 5 Tryz.underlying54 Tryz.underlying5 w.heap.size 0 1 1 [x] rfl
    (fun i hi => by
      obtain rfl : i = 0 := by omega
      rw [World.cell?_alloc_new]; rfl) 9 Tryz.underlying9

theorem ret_str {a b : ByteArray} (h : a = b) : Ending.returned (.string a) = .returned (.string b) := by rw [h]

theorem decS_small (n : Int) (h0 : 0 ≤ n) (h1 : n < 10) : strOfNums [48 + n] = decS n := by
  obtain ⟨k, rfl⟩ := Int.eq_ofNat_of_zero_le h0
  have hk : k < 10 := by omega
  have hf : ∀ k : Fin 10, strOfNums [48 + (k.val : Int)] = decS (k.val : Int) := by decide +kernel
  exact hf ⟨k, hk⟩

set_option maxRecDepth 100000 in
theorem ref_dec_small (n : Int) (h0 : 0 ≤ n) (h1 : n < 10) : DecAt n := by
  intro w
  have hcv := conv_one w (48 + n)
  have hfin := Lib.hid (decS_small n h0 h1)
  go_enter Tryz.func9, Tryz.ntmps9
  go_wp2
  go_ret
  exact ⟨ret_str hfin.out, (Below.refl _ _).alloc (Nat.le_refl _) _⟩
theorem decS_size (n : Int) (h0 : -9223372036854775808 ≤ n) (h1 : n ≤ 9223372036854775807) : (decS n).size ≤ 21 := by
  have := Lib.itoa_length_le n h0 h1
  simpa [decS, ByteArray.size] using this

theorem itoa_neg' (n : Int) (h0 : n < 0) : Lib.itoa n = 45 :: Lib.itoa (-n) := by
  obtain ⟨k, hk⟩ := Int.eq_ofNat_of_zero_le (show 0 ≤ -n by omega)
  rw [hk, Lib.itoa_nonneg, show n = -(k : Int) by omega, Lib.itoa_neg k (by omega)]

theorem dg_app (u : Nat) (h : 10 ≤ u) : Lib.decDigits u = Lib.decDigits (u / 10) ++ Lib.decDigits (u % 10) := by
  conv => lhs; rw [Lib.decDigits, dif_neg (by omega)]
  rw [Lib.decDigits_one (i := u % 10) (by omega)]

theorem decS_neg (n : Int) (h0 : n < 0) : (⟨#[45]⟩ : ByteArray) ++ decS (-n) = decS n := by
  apply ByteArray.ext
  simp only [ByteArray.data_append, decS]
  rw [itoa_neg' n h0]
  simp

theorem decS_pos (n : Int) (h0 : 10 ≤ n) : decS (n / 10) ++ decS (n % 10) = decS n := by
  obtain ⟨u, rfl⟩ := Int.eq_ofNat_of_zero_le (show 0 ≤ n by omega)
  have e1 : ((u : Int) / 10) = ((u / 10 : Nat) : Int) := by omega
  have e2 : ((u : Int) % 10) = ((u % 10 : Nat) : Int) := by omega
  apply ByteArray.ext
  simp only [ByteArray.data_append, decS]
  rw [e1, e2, Lib.itoa_nonneg, Lib.itoa_nonneg, Lib.itoa_nonneg, dg_app u (by omega)]
  simp

theorem decS_low (n : Int) (h0 : n ≤ -10) : decS (n.tdiv 10) ++ decS (-(n.tmod 10)) = decS n := by
  obtain ⟨u, hu⟩ := Int.eq_ofNat_of_zero_le (show 0 ≤ -n by omega)
  obtain rfl : n = -(u : Int) := by omega
  have e1 : (-(u : Int)).tdiv 10 = -((u / 10 : Nat) : Int) := by rw [Int.neg_tdiv]; rw [Int.tdiv_eq_ediv_of_nonneg (by omega)]; omega
  have e2 : (-(u : Int)).tmod 10 = -((u % 10 : Nat) : Int) := by rw [Int.neg_tmod]; rw [Int.tmod_eq_emod_of_nonneg (by omega)]; omega
  apply ByteArray.ext
  simp only [ByteArray.data_append, decS]
  rw [e1, e2, Int.neg_neg, Lib.itoa_neg _ (by omega), Lib.itoa_neg _ (by omega), Lib.itoa_nonneg, dg_app u (by omega)]
  simp

theorem tdiv_low (n : Int) (h : n ≤ 0) : n.tdiv 10 = -((-n) / 10) := by
  have e : n.tdiv 10 = -((-n).tdiv 10) := by rw [← Int.neg_tdiv, Int.neg_neg]
  rw [e, Int.tdiv_eq_ediv_of_nonneg (by omega)]
theorem tmod_low (n : Int) (h : n ≤ 0) : n.tmod 10 = -((-n) % 10) := by
  have e : n.tmod 10 = -((-n).tmod 10) := by rw [← Int.neg_tmod, Int.neg_neg]
  rw [e, Int.tmod_eq_emod_of_nonneg (by omega)]

theorem ref_dec_neg (n : Int) (h0 : n < 0) (h1 : -10 < n) (ih : DecAt (-n)) : DecAt n := by
  intro w
  have hsz := decS_size (-n) (by omega) (by omega)
  go_enter Tryz.func9, Tryz.ntmps9
  go_wp2_with fail
  refine (ih _).mono ?_
  rintro e w' ⟨rfl, hb⟩
  go_wp2
  go_ret
  exact ⟨ret_str (decS_neg n h0), hb⟩

theorem ref_dec_pos (n : Int) (h0 : 10 ≤ n) (h1 : n ≤ 9223372036854775807) (ih : DecAt (n / 10)) (ih2 : DecAt (n % 10)) : DecAt n := by
  intro w
  have hsz := decS_size (n / 10) (by omega) (by omega)
  have hsz2 := decS_size (n % 10) (by omega) (by omega)
  go_enter Tryz.func9, Tryz.ntmps9
  go_wp2_with fail
  refine (ih _).mono ?_
  rintro e w' ⟨rfl, hb⟩
  go_wp2_with fail
  refine (ih2 _).mono ?_
  rintro e w1 ⟨rfl, hb1⟩
  go_wp2
  go_ret
  exact ⟨ret_str (decS_pos n h0), hb.trans (hb1.mono hb.size)⟩

theorem ref_dec_low (n : Int) (h0 : n ≤ -10) (h1 : -9223372036854775808 ≤ n) (ih : DecAt (n.tdiv 10)) (ih2 : DecAt (-(n.tmod 10))) : DecAt n := by
  intro w
  have hq0 : -9223372036854775808 ≤ n.tdiv 10 := by rw [tdiv_low n (by omega)]; omega
  have hq1 : n.tdiv 10 ≤ 0 := by rw [tdiv_low n (by omega)]; omega
  have hr0 : -10 < n.tmod 10 := by rw [tmod_low n (by omega)]; omega
  have hr1 : n.tmod 10 ≤ 0 := by rw [tmod_low n (by omega)]; omega
  have hsz := decS_size (n.tdiv 10) hq0 (by omega)
  have hsz2 := decS_size (-(n.tmod 10)) (by omega) (by omega)
  have hfin := Lib.hid (decS_low n h0)
  by_cases hz : n.tmod 10 < 0
  · go_enter Tryz.func9, Tryz.ntmps9
    go_wp2_with fail
    refine (ih _).mono ?_
    rintro e w' ⟨rfl, hb⟩
    go_wp2_with fail
    refine (ih2 _).mono ?_
    rintro e w1 ⟨rfl, hb1⟩
    go_wp2
    go_ret
    exact ⟨ret_str hfin.out, hb.trans (hb1.mono hb.size)⟩
  · have hz0 := Lib.hid (show n.tmod 10 = -(n.tmod 10) by omega)
    go_enter Tryz.func9, Tryz.ntmps9
    go_wp2_with fail
    refine (ih _).mono ?_
    rintro e w' ⟨rfl, hb⟩
    go_wp2_with fail
    rw [hz0.out]
    refine (ih2 _).mono ?_
    rintro e w1 ⟨rfl, hb1⟩
    go_wp2
    go_ret
    exact ⟨ret_str hfin.out, hb.trans (hb1.mono hb.size)⟩

/-- The reference's Dec: the decimal numeral. -/
theorem ref_dec_any (k : Nat) : ∀ n : Int, n.natAbs ≤ k → -9223372036854775808 ≤ n → n ≤ 9223372036854775807 → DecAt n := by
  induction k with
  | zero =>
    intro n hk _ _
    exact ref_dec_small n (by omega) (by omega)
  | succ k ih =>
    intro n hk h0 h1
    by_cases a : 0 ≤ n
    · by_cases b : n < 10
      · exact ref_dec_small n a b
      · exact ref_dec_pos n (by omega) h1 (ih _ (by omega) (by omega) (by omega)) (ref_dec_small _ (by omega) (by omega))
    · by_cases b : -10 < n
      · exact ref_dec_neg n (by omega) b (ref_dec_small _ (by omega) (by omega))
      · have hd := tdiv_low n (by omega)
        have hm := tmod_low n (by omega)
        exact ref_dec_low n (by omega) h0 (ih _ (by omega) (by omega) (by omega)) (ref_dec_small _ (by omega) (by omega))
end Go.Proofs.YteijbhmbmjffbaaGreatDoor
