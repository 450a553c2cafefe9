/-
  Unlike verdicts that may be have unlike texts: plain lists of bytes.
-/
import Derived.Test.YteijbhmbmjffbaaGreatDoorRefText
namespace Go.Proofs.YteijbhmbmjffbaaGreatDoor
open Go.Lib

theorem digits_ne (u : Nat) : Lib.decDigits u ≠ [] := by
  rw [Lib.decDigits]
  split <;> simp

theorem digits_small (u : Nat) (h : u < 10) : Lib.decDigits u = [UInt8.ofNat (48 + u)] := Lib.decDigits_one h
theorem digits_great (u : Nat) (h : 10 ≤ u) : Lib.decDigits u = Lib.decDigits (u / 10) ++ [UInt8.ofNat (48 + u % 10)] := by
  rw [Lib.decDigits, dif_neg (by omega)]

theorem byte_inj (a b : Nat) (ha : a < 10) (hb : b < 10) (h : UInt8.ofNat (48 + a) = UInt8.ofNat (48 + b)) : a = b := by
  have := congrArg UInt8.toNat h
  simp at this
  omega

theorem digits_inj (u : Nat) : ∀ v, Lib.decDigits u = Lib.decDigits v → u = v := by
  induction u using Nat.strongRecOn with
  | _ u ih =>
    intro v h
    by_cases hu : u < 10
    · by_cases hv : v < 10
      · rw [digits_small u hu, digits_small v hv] at h
        exact byte_inj u v hu hv (by simpa using h)
      · rw [digits_small u hu, digits_great v (by omega)] at h
        have := congrArg List.length h
        have hne := List.length_pos_iff.2 (digits_ne (v / 10))
        rw [List.length_append, List.length_singleton, List.length_singleton] at this
        omega
    · by_cases hv : v < 10
      · rw [digits_small v hv, digits_great u (by omega)] at h
        have := congrArg List.length h
        have hne := List.length_pos_iff.2 (digits_ne (u / 10))
        rw [List.length_append, List.length_singleton, List.length_singleton] at this
        omega
      · rw [digits_great u (by omega), digits_great v (by omega)] at h
        obtain ⟨h1, h2⟩ := List.append_inj' h rfl
        have e1 := ih (u / 10) (by omega) _ h1
        have e2 := byte_inj (u % 10) (v % 10) (by omega) (by omega) (by simpa using h2)
        omega

theorem digits_digit (u : Nat) : ∀ c ∈ Lib.decDigits u, 48 ≤ c.toNat ∧ c.toNat ≤ 57 := by
  induction u using Nat.strongRecOn with
  | _ u ih =>
    intro c hc
    by_cases hu : u < 10
    · rw [digits_small u hu] at hc
      obtain rfl : c = _ := by simpa using hc
      simp
      omega
    · rw [digits_great u (by omega)] at hc
      rcases List.mem_append.1 hc with h | h
      · exact ih _ (by omega) c h
      · obtain rfl : c = _ := by simpa using h
        simp
        omega

theorem itoa_inj (m n : Int) (h : Lib.itoa m = Lib.itoa n) : m = n := by
  have head : ∀ u r, Lib.decDigits u ≠ 45 :: r := fun u r e => by
    have := digits_digit u 45 (by rw [e]; simp)
    simp at this
  by_cases hm : m < 0
  · by_cases hn : n < 0
    · rw [itoa_neg' m hm, itoa_neg' n hn] at h
      obtain ⟨a, ha⟩ := Int.eq_ofNat_of_zero_le (show 0 ≤ -m by omega)
      obtain ⟨b, hb⟩ := Int.eq_ofNat_of_zero_le (show 0 ≤ -n by omega)
      rw [ha, hb, Lib.itoa_nonneg, Lib.itoa_nonneg] at h
      have := digits_inj a b (by simpa using h)
      omega
    · obtain ⟨b, rfl⟩ := Int.eq_ofNat_of_zero_le (show 0 ≤ n by omega)
      rw [itoa_neg' m hm, Lib.itoa_nonneg] at h
      exact (head _ _ h.symm).elim
  · obtain ⟨a, rfl⟩ := Int.eq_ofNat_of_zero_le (show 0 ≤ m by omega)
    by_cases hn : n < 0
    · rw [itoa_neg' n hn, Lib.itoa_nonneg] at h
      exact (head _ _ h).elim
    · obtain ⟨b, rfl⟩ := Int.eq_ofNat_of_zero_le (show 0 ≤ n by omega)
      rw [Lib.itoa_nonneg, Lib.itoa_nonneg] at h
      have := digits_inj a b h
      omega

/-- Two texts that end at their first blank. -/
theorem split_blank : ∀ (a b r s : List UInt8), (∀ c ∈ a, c ≠ 32) → (∀ c ∈ b, c ≠ 32) → a ++ 32 :: r = b ++ 32 :: s → a = b ∧ r = s
  | [], [], r, s, _, _, h => ⟨rfl, by simpa using h⟩
  | [], y :: b, r, s, _, hb, h => by
    simp only [List.nil_append, List.cons_append, List.cons.injEq] at h
    exact (hb y (by simp) h.1.symm).elim
  | x :: a, [], r, s, ha, _, h => by
    simp only [List.nil_append, List.cons_append, List.cons.injEq] at h
    exact (ha x (by simp) h.1).elim
  | x :: a, y :: b, r, s, ha, hb, h => by
    simp only [List.cons_append, List.cons.injEq] at h
    obtain ⟨h1, h2⟩ := split_blank a b r s (fun c hc => ha c (by simp [hc])) (fun c hc => hb c (by simp [hc])) h.2
    exact ⟨by rw [h.1, h1], h2⟩

def txtL (k : Int) (s1 s2 : List UInt8) : List UInt8 :=
  if k = 1 then [97, 108, 105, 107, 101, 32] ++ s1
  else if k = 2 then [111, 116, 104, 101, 114, 32, 97, 116, 32] ++ (s1 ++ 32 :: ([119, 104, 121, 32] ++ s2))
  else if k = 3 then [108, 111, 115, 116, 32, 119, 104, 121, 32] ++ s2
  else []

theorem textS_toList (k : Int) (a y : Int) : (textS k (decS a) (decS y)).data.toList = txtL k (Lib.itoa a) (Lib.itoa y) := by
  unfold textS txtL
  split
  · simp [ByteArray.data_append, decS]
  · split
    · simp [ByteArray.data_append, decS]
    · split
      · simp [ByteArray.data_append, decS]
      · rfl
theorem itoa_no32 (a : Int) : ∀ c ∈ Lib.itoa a, c ≠ 32 := by
  intro c hc e
  subst e
  have dd : ∀ u, (32 : UInt8) ∉ Lib.decDigits u := fun u h => by
    have := digits_digit u 32 h
    simp at this
  by_cases h : a < 0
  · rw [itoa_neg' a h] at hc
    obtain ⟨b, hb⟩ := Int.eq_ofNat_of_zero_le (show 0 ≤ -a by omega)
    rw [hb, Lib.itoa_nonneg] at hc
    simp at hc
    exact dd _ hc
  · obtain ⟨b, rfl⟩ := Int.eq_ofNat_of_zero_le (show 0 ≤ a by omega)
    rw [Lib.itoa_nonneg] at hc
    exact dd _ hc

/-- What is compared: the texts' bytes. -/
theorem bytes_toList (s : ByteArray) : s.toList = s.data.toList := by
  exact ByteArray.toList_eq s

/-- Texts of verdicts that may be are alike where the verdicts are. -/
theorem txt_ne (k1 a1 y1 k2 a2 y2 : Int) (hk1 : k1 = 1 ∨ k1 = 2 ∨ k1 = 3) (hk2 : k2 = 1 ∨ k2 = 2 ∨ k2 = 3)
    (hd : ¬ (k1 = k2 ∧ (k1 ≠ 3 → a1 = a2) ∧ (k1 ≠ 1 → y1 = y2))) : txtL k1 (Lib.itoa a1) (Lib.itoa y1) ≠ txtL k2 (Lib.itoa a2) (Lib.itoa y2) := by
  intro h
  apply hd
  unfold txtL at h
  rcases hk1 with rfl | rfl | rfl <;> rcases hk2 with rfl | rfl | rfl <;> simp at h
  · exact ⟨rfl, fun _ => itoa_inj _ _ h, fun e => (e rfl).elim⟩
  · obtain ⟨e1, e2⟩ := split_blank _ _ _ _ (itoa_no32 _) (itoa_no32 _) h
    simp at e2
    exact ⟨rfl, fun _ => itoa_inj _ _ e1, fun _ => itoa_inj _ _ e2⟩
  · exact ⟨rfl, fun e => (e rfl).elim, fun _ => itoa_inj _ _ h⟩
theorem low63_small (a : Int) (h0 : 0 ≤ a) (h1 : a < 9223372036854775808) : low63 a = a := by
  rw [low63_eq a h0 (by omega)]; omega

def txt (k a y : Int) : ByteArray := textS k (decS (low63 a)) (decS y)

theorem txt_diff (k1 a1 y1 k2 a2 y2 : Int) (hk1 : k1 = 1 ∨ k1 = 2 ∨ k1 = 3) (hk2 : k2 = 1 ∨ k2 = 2 ∨ k2 = 3) (p1 : 0 ≤ a1 ∧ a1 < 9223372036854775808) (p2 : 0 ≤ a2 ∧ a2 < 9223372036854775808)
    (hd : ¬ (k1 = k2 ∧ (k1 ≠ 3 → a1 = a2) ∧ (k1 ≠ 1 → y1 = y2))) : ((txt k1 a1 y1).toList == (txt k2 a2 y2).toList) = false := by
  rw [beq_eq_false_iff_ne]
  intro h
  rw [bytes_toList, bytes_toList, txt, txt, textS_toList, textS_toList, low63_small _ p1.1 p1.2, low63_small _ p2.1 p2.2] at h
  exact txt_ne k1 a1 y1 k2 a2 y2 hk1 hk2 hd h
end Go.Proofs.YteijbhmbmjffbaaGreatDoor
