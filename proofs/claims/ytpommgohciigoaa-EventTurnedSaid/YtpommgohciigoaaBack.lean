/- What is laid is read: the number, the number that may be below 0, the text. No program in sight. -/
import Derived.Test.YtpommgohciigoaaCodeSpec
namespace Go.Proofs.Ytpommgohciigoaa
open Go Go.RowKit

theorem dLast_toNat {n : Nat} (h : n < 128) : (dLast n).toNat = n := by
  unfold dLast; rw [UInt8.toNat_ofNat']; omega
theorem dMore_toNat (n : Nat) : (dMore n).toNat = n % 128 + 128 := by
  unfold dMore; rw [UInt8.toNat_ofNat']; omega
theorem pow9 : (128 : Nat) ^ 9 = 9223372036854775808 := by decide

theorem rdNum_numB (r : List UInt8) (k : Nat) : ∀ n i acc, n < 128 ^ k → n * 128 ^ i < 18446744073709551616 → (0 < i → 0 < n) → rdNum i acc (numB n ++ r) = (acc + n * 128 ^ i, r, 0) := by
  induction k with
  | zero =>
    intro n i acc hk _ hi
    have hn : n = 0 := by simpa using hk
    subst hn
    have hi0 : i = 0 := Nat.eq_zero_of_not_pos fun h => absurd (hi h) (by omega)
    subst hi0
    rw [numB_small (by omega)]
    simp [rdNum, dLast]
  | succ k ih =>
    intro n i acc hk hb hi
    have h9 : i = 9 → n ≤ 1 := by
      intro e
      subst e
      rw [pow9] at hb
      omega
    by_cases h : n < 128
    · rw [numB_small h]
      have e := dLast_toNat h
      show rdNum i acc (dLast n :: r) = _
      unfold rdNum
      rw [e, if_neg (by rintro (⟨a, b⟩ | ⟨a, b⟩); have := h9 a; omega; have := hi a; omega), if_pos h]
    · rw [numB_big h]
      have e := dMore_toNat n
      show rdNum i acc (dMore n :: (numB (n / 128) ++ r)) = _
      unfold rdNum
      rw [e, if_neg (by rintro (⟨a, b⟩ | ⟨a, b⟩); have := h9 a; omega; omega), if_neg (by omega)]
      have hp : 128 ^ (i + 1) = 128 * 128 ^ i := by rw [Nat.pow_succ, Nat.mul_comm]
      have hd : n / 128 * 128 ^ (i + 1) + n % 128 * 128 ^ i = n * 128 ^ i := by
        rw [hp, ← Nat.mul_assoc, ← Nat.add_mul]
        congr 1
        omega
      have hm : (n % 128 + 128) % 128 = n % 128 := by omega
      rw [hm, ih (n / 128) (i + 1) _ (by rw [Nat.pow_succ] at hk; omega) (by omega) (fun _ => by omega)]
      congr 1
      omega
theorem readNum_back (n : Nat) (r : List UInt8) (h : n < 18446744073709551616) : readNum (numB n ++ r) 0 = (n, r, 0) := by
  unfold readNum
  rw [if_pos rfl, rdNum_numB r 10 n 0 0 (by omega) (by omega) (fun h => absurd h (by omega))]
  simp
theorem zig_back (n : Int) (h0 : -9223372036854775808 ≤ n) (h1 : n ≤ 9223372036854775807) : (zig n).toNat < 18446744073709551616 ∧ unzig (zig n).toNat = n := by
  unfold zig unzig
  split
  · refine ⟨by omega, ?_⟩
    rw [if_neg (by omega)]
    omega
  · refine ⟨by omega, ?_⟩
    rw [if_pos (by omega)]
    omega
theorem readInt_back (n : Int) (r : List UInt8) (h0 : -9223372036854775808 ≤ n) (h1 : n ≤ 9223372036854775807) : readInt (intB n ++ r) 0 = (n, r, 0) := by
  obtain ⟨a, b⟩ := zig_back n h0 h1
  unfold readInt intB
  rw [readNum_back _ _ a, b]
theorem readText_back (t r : List UInt8) (most : Int) (hm : (t.length : Int) ≤ most) (ht : t.length < 18446744073709551616) : readText (textB t ++ r) 0 most = (t, r, 0) := by
  unfold readText textB rdText
  rw [List.append_assoc, readNum_back _ _ ht]
  have h1 : ¬ most.toNat < t.length := by omega
  have h2 : ¬ (t ++ r).length < t.length := by rw [List.length_append]; omega
  simp only [ne_eq, not_true_eq_false, if_false, h1, h2]
  simp
end Go.Proofs.Ytpommgohciigoaa
