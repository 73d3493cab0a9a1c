/- What the functions of package code compute, as functions on lists of bytes. No program in sight. -/
import Derived.Test.YtpommgohciigoaaBase
namespace Go.Proofs.Ytpommgohciigoaa
open Go Go.RowKit

/-- A number's last digit, and one behind which there are more. -/
def dLast (n : Nat) : UInt8 := UInt8.ofNat n
def dMore (n : Nat) : UInt8 := UInt8.ofNat (n % 128 + 128)
/-- A number's digits, the lowest first. -/
def numB (n : Nat) : List UInt8 := if h : n < 128 then [dLast n] else dMore n :: numB (n / 128)
termination_by n
decreasing_by omega

theorem numB_small {n : Nat} (h : n < 128) : numB n = [dLast n] := by rw [numB, dif_pos h]
theorem numB_big {n : Nat} (h : ¬ n < 128) : numB n = dMore n :: numB (n / 128) := by rw [numB, dif_neg h]

theorem numB_len (k : Nat) : ∀ n, n < 128 ^ k → 0 < k → (numB n).length ≤ k ∧ 0 < (numB n).length := by
  induction k with
  | zero => intro n _ h; omega
  | succ k ih =>
    intro n hn _
    by_cases h : n < 128
    · rw [numB_small h]; simp
    · rw [numB_big h]
      rcases Nat.eq_zero_or_pos k with rfl | hk
      · simp at hn; omega
      · have := ih (n / 128) (by rw [Nat.pow_succ] at hn; omega) hk
        simp; omega

/-- A number that may be below 0, as one that may not. -/
def zig (n : Int) : Int := if 0 ≤ n then 2 * n else -2 * n - 1
def intB (n : Int) : List UInt8 := numB (zig n).toNat
/-- A text: how many bytes, and these. -/
def textB (t : List UInt8) : List UInt8 := numB t.length ++ t

theorem numB_len10 {n : Int} (h : n ≤ 18446744073709551615) : (numB n.toNat).length ≤ 10 := (numB_len 10 n.toNat (by omega) (by omega)).1
theorem numB_pos {n : Nat} (h : n ≤ 18446744073709551615) : 0 < (numB n).length := (numB_len 10 n (by omega) (by omega)).2

/-- A number read: the number, the bytes that are left, the error (2: ErrForm, 3: ErrShort). From the i-th digit on. -/
def rdNum (i acc : Nat) : List UInt8 → Nat × List UInt8 × Int
  | [] => (0, [], 3)
  | b :: r => if (i = 9 ∧ 1 < b.toNat) ∨ (0 < i ∧ b.toNat = 0) then (0, [], 2) else if b.toNat < 128 then (acc + b.toNat * 128 ^ i, r, 0) else rdNum (i + 1) (acc + b.toNat % 128 * 128 ^ i) r
def readNum (l : List UInt8) (e : Int) : Nat × List UInt8 × Int := if e = 0 then rdNum 0 0 l else (0, l, e)
def unzig (n : Nat) : Int := if n % 2 = 1 then -((n / 2 : Nat) : Int) - 1 else ((n / 2 : Nat) : Int)
def readInt (l : List UInt8) (e : Int) : Int × List UInt8 × Int := (unzig (readNum l e).1, (readNum l e).2)
/-- A text of so many bytes at most, its length read. -/
def rdText (most : Int) (q : Nat × List UInt8 × Int) : List UInt8 × List UInt8 × Int :=
  if q.2.2 ≠ 0 then ([], q.2) else if most.toNat < q.1 then ([], [], 2) else if q.2.1.length < q.1 then ([], [], 3) else (q.2.1.take q.1, q.2.1.drop q.1, 0)
def readText (l : List UInt8) (e most : Int) : List UInt8 × List UInt8 × Int := rdText most (readNum l e)
/-- Is all read? -/
def endErr (l : List UInt8) (e : Int) : Int := if e = 0 ∧ 0 < l.length then 2 else e
end Go.Proofs.Ytpommgohciigoaa
