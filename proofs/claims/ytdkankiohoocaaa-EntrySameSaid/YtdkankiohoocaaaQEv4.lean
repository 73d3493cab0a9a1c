/- What is laid is read: the number, the number that may be below 0, the text. No program in sight. -/
import Derived.Test.YtdkankiohoocaaaQCode1
import Derived.Test.YtdkankiohoocaaaQEv2
import Derived.Test.YtdkankiohoocaaaQEv3
namespace Go.Proofs.Ytdkankiohoocaaa
set_option linter.unusedSimpArgs false
set_option linter.unusedVariables false
open Go Go.RowKit

theorem dLast_toNat {n : Nat} (h : n < 128) : (dLast n).toNat = n := by
  unfold dLast; rw [UInt8.toNat_ofNat']; omega
theorem dMore_toNat (n : Nat) : (dMore n).toNat = n % 128 + 128 := by
  unfold dMore; rw [UInt8.toNat_ofNat']; omega
theorem pow9 : (128 : Nat) ^ 9 = 9223372036854775808 := by decide

theorem rdNum_numB (r : List UInt8) (k : Nat) : ∀ n i acc, n < 128 ^ k → n * 128 ^ i < 18446744073709551616 → (0 < i → 0 < n) → rdNum i acc (numB n ++ r) = (acc + n * 128 ^ i, r, 0) := by
  induction k with
  | zero =>
    intro n i acc hk _ hi
    have hn : n = 0 := by simpa using hk
    subst hn
    have hi0 : i = 0 := Nat.eq_zero_of_not_pos fun h => absurd (hi h) (by omega)
    subst hi0
    rw [numB_small (by omega)]
    simp [rdNum, dLast]
  | succ k ih =>
    intro n i acc hk hb hi
    have h9 : i = 9 → n ≤ 1 := by
      intro e
      subst e
      rw [pow9] at hb
      omega
    by_cases h : n < 128
    · rw [numB_small h]
      have e := dLast_toNat h
      show rdNum i acc (dLast n :: r) = _
      unfold rdNum
      rw [e, if_neg (by rintro (⟨a, b⟩ | ⟨a, b⟩); have := h9 a; omega; have := hi a; omega), if_pos h]
    · rw [numB_big h]
      have e := dMore_toNat n
      show rdNum i acc (dMore n :: (numB (n / 128) ++ r)) = _
      unfold rdNum
      rw [e, if_neg (by rintro (⟨a, b⟩ | ⟨a, b⟩); have := h9 a; omega; omega), if_neg (by omega)]
      have hp : 128 ^ (i + 1) = 128 * 128 ^ i := by rw [Nat.pow_succ, Nat.mul_comm]
      have hd : n / 128 * 128 ^ (i + 1) + n % 128 * 128 ^ i = n * 128 ^ i := by
        rw [hp, ← Nat.mul_assoc, ← Nat.add_mul]
        congr 1
        omega
      have hm : (n % 128 + 128) % 128 = n % 128 := by omega
      rw [hm, ih (n / 128) (i + 1) _ (by rw [Nat.pow_succ] at hk; omega) (by omega) (fun _ => by omega)]
      congr 1
      omega
theorem readNum_back (n : Nat) (r : List UInt8) (h : n < 18446744073709551616) : readNum (numB n ++ r) 0 = (n, r, 0) := by
  unfold readNum
  rw [if_pos rfl, rdNum_numB r 10 n 0 0 (by omega) (by omega) (fun h => absurd h (by omega))]
  simp
theorem zig_back (n : Int) (h0 : -9223372036854775808 ≤ n) (h1 : n ≤ 9223372036854775807) : (zig n).toNat < 18446744073709551616 ∧ unzig (zig n).toNat = n := by
  unfold zig unzig
  split
  · refine ⟨by omega, ?_⟩
    rw [if_neg (by omega)]
    omega
  · refine ⟨by omega, ?_⟩
    rw [if_pos (by omega)]
    omega
theorem readInt_back (n : Int) (r : List UInt8) (h0 : -9223372036854775808 ≤ n) (h1 : n ≤ 9223372036854775807) : readInt (intB n ++ r) 0 = (n, r, 0) := by
  obtain ⟨a, b⟩ := zig_back n h0 h1
  unfold readInt intB
  rw [readNum_back _ _ a, b]
theorem readText_back (t r : List UInt8) (most : Int) (hm : (t.length : Int) ≤ most) (ht : t.length < 18446744073709551616) : readText (textB t ++ r) 0 most = (t, r, 0) := by
  unfold readText textB rdText
  rw [List.append_assoc, readNum_back _ _ ht]
  have h1 : ¬ most.toNat < t.length := by omega
  have h2 : ¬ (t ++ r).length < t.length := by rw [List.length_append]; omega
  simp only [ne_eq, not_true_eq_false, if_false, h1, h2]
  simp
end Go.Proofs.Ytdkankiohoocaaa
/- An event's bytes are read as the event. No program in sight but in the values. -/
namespace Go.Proofs.Ytdkankiohoocaaa
set_option linter.unusedSimpArgs false
set_option linter.unusedVariables false
open Go Go.RowKit Go.Proofs

theorem stepNum_back (a b n : Nat) (r : List UInt8) (h0 : a ≤ n) (h1 : n ≤ b) (h2 : n < 18446744073709551616) : stepNum a b (numB n ++ r, 0) = (n, r, 0) := by
  unfold stepNum
  rw [readNum_back n r h2, if_neg]
  rintro ⟨-, h | h⟩ <;> simp at h <;> omega
theorem dec_enc (id tx : Int) (o : ByteArray) (tries table kind key : Int) (t : ByteArray) (hk : EvOk id tx o.size tries table kind t.size) (h1 : id ≤ 9223372036854775807) (h2 : tx ≤ 9223372036854775807) (h3 : -9223372036854775808 ≤ key) (h4 : key ≤ 9223372036854775807) :
    decV (decE (encB id tx o tries table kind key t)) = .tuple #[evv id tx o tries table kind key t, .int .i64 0] := by
  obtain ⟨k1, k2, k3, k4, k5, k6, k7, k8, k9, k10⟩ := hk
  have lo : o.data.toList.length = o.size := size_toList o
  have lt : t.data.toList.length = t.size := size_toList t
  have e0 : encB id tx o tries table kind key t = numB id.toNat ++ (numB tx.toNat ++ (textB o.data.toList ++ (numB tries.toNat ++ (numB table.toNat ++ (numB kind.toNat ++ (intB key ++ (textB t.data.toList ++ []))))))) := by
    unfold encB; simp
  have hd : decE (encB id tx o tries table kind key t) = ⟨id.toNat, tx.toNat, o.data.toList, tries.toNat, table.toNat, kind.toNat, key, t.data.toList, 0⟩ := by
    rw [e0]
    refine (decE_is (q1 := (id.toNat, _, 0)) (q2 := (tx.toNat, _, 0)) (q3 := (o.data.toList, _, 0)) (q4 := (tries.toNat, _, 0)) (q5 := (table.toNat, _, 0)) (q6 := (kind.toNat, _, 0)) (q7 := (key, _, 0)) (q8 := (t.data.toList, [], 0))
      (stepNum_back _ _ _ _ (by omega) (by omega) (by omega)) (stepNum_back _ _ _ _ (by omega) (by omega) (by omega)) (readText_back _ _ _ (by omega) (by omega)) (stepNum_back _ _ _ _ (by omega) (by omega) (by omega))
      (stepNum_back _ _ _ _ (by omega) (by omega) (by omega)) (stepNum_back _ _ _ _ (by omega) (by omega) (by omega)) (readInt_back _ _ h3 h4) (readText_back _ _ _ (by omega) (by omega))).trans ?_
    rfl
  rw [hd]
  unfold decV
  rw [if_pos rfl]
  have i1 : ((id.toNat : Nat) : Int) = id := by omega
  have i2 : ((tx.toNat : Nat) : Int) = tx := by omega
  have i3 : ((tries.toNat : Nat) : Int) = tries := by omega
  have i4 : ((table.toNat : Nat) : Int) = table := by omega
  have i5 : ((kind.toNat : Nat) : Int) = kind := by omega
  simp only [i1, i2, i3, i4, i5]
theorem enc_len (id tx : Int) (o : ByteArray) (tries table kind key : Int) (t : ByteArray) (hk : EvOk id tx o.size tries table kind t.size) (h1 : id ≤ 9223372036854775807) (h2 : tx ≤ 9223372036854775807) (h3 : -9223372036854775808 ≤ key) (h4 : key ≤ 9223372036854775807) :
    (encB id tx o tries table kind key t).length ≤ 200 ∧ 0 < (encB id tx o tries table kind key t).length := by
  obtain ⟨k1, k2, k3, k4, k5, k6, k7, k8, k9, k10⟩ := hk
  have ht1 : (textB o.data.toList).length ≤ 50 := by
    unfold textB; rw [List.length_append, size_toList]; have := (numB_len 10 o.size (by omega) (by omega)).1; omega
  have ht2 : (textB t.data.toList).length ≤ 50 := by
    unfold textB; rw [List.length_append, size_toList]; have := (numB_len 10 t.size (by omega) (by omega)).1; omega
  have hi7 : (intB key).length ≤ 10 := by
    unfold intB zig; split <;> exact numB_len10 (by omega)
  have l1 := numB_len10 (n := id) (by omega)
  have l1' := numB_pos (n := id.toNat) (by omega)
  have l2 := numB_len10 (n := tx) (by omega)
  have l4 := numB_len10 (n := tries) (by omega)
  have l5 := numB_len10 (n := table) (by omega)
  have l6 := numB_len10 (n := kind) (by omega)
  unfold encB
  simp only [List.length_append]
  omega
end Go.Proofs.Ytdkankiohoocaaa
/- Bytes that are read without an error are an event's own bytes. No program in sight but in the values. -/
namespace Go.Proofs.Ytdkankiohoocaaa
set_option linter.unusedSimpArgs false
set_option linter.unusedVariables false
open Go Go.RowKit Go.Proofs

theorem pow_small (i : Nat) (h : i < 9) : 128 ^ i * 128 ≤ 9223372036854775808 := by
  rcases i with _ | _ | _ | _ | _ | _ | _ | _ | _ | i <;> first | omega | decide
theorem pow_part : ∀ j : Fin 10, 18446744073709551616 = 2 * 128 ^ (9 - j.val) * 128 ^ j.val := by decide
theorem pow_pos' (i : Nat) : 0 < 128 ^ i := Nat.pow_pos (by omega)
theorem dLast_eq {b : UInt8} {n : Nat} (h : b.toNat = n) : dLast n = b := by
  subst h; unfold dLast; simp
theorem dMore_eq {b : UInt8} {n : Nat} (h : b.toNat = n % 128 + 128) : dMore n = b := by
  unfold dMore; rw [← h]; simp
theorem rdNum_canon : ∀ (l : List UInt8) (i acc n : Nat) (r : List UInt8), i ≤ 9 → rdNum i acc l = (n, r, 0) → ∃ m, n = acc + m * 128 ^ i ∧ l = numB m ++ r ∧ m * 128 ^ i < 18446744073709551616 ∧ (0 < i → 0 < m) := by
  intro l
  induction l with
  | nil => intro i acc n r _ h; unfold rdNum at h; cases h
  | cons b l ih =>
    intro i acc n r hi h
    have hb := b.toNat_lt
    unfold rdNum at h
    by_cases hbad : (i = 9 ∧ 1 < b.toNat) ∨ (0 < i ∧ b.toNat = 0)
    · rw [if_pos hbad] at h; cases h
    rw [if_neg hbad] at h
    by_cases hlt : b.toNat < 128
    · rw [if_pos hlt] at h
      injection h with h1 h2
      injection h2 with h2 _
      subst h1; subst h2
      refine ⟨b.toNat, rfl, ?_, ?_, fun h0 => Nat.pos_of_ne_zero fun h => hbad (.inr ⟨h0, h⟩)⟩
      · rw [numB_small hlt, dLast_eq rfl]; rfl
      · by_cases h9 : i = 9
        · subst h9
          have : b.toNat ≤ 1 := Nat.le_of_not_lt fun h => hbad (.inl ⟨rfl, h⟩)
          rw [pow9]; omega
        · have h1 := pow_small i (by omega)
          have h2 : b.toNat * 128 ^ i ≤ 128 * 128 ^ i := Nat.mul_le_mul_right _ (by omega)
          rw [Nat.mul_comm] at h1
          omega
    · rw [if_neg hlt] at h
      have h9 : i ≠ 9 := fun e => hbad (.inl ⟨e, by omega⟩)
      obtain ⟨m, hn, hl, hm, hp⟩ := ih (i + 1) _ n r (by omega) h
      have hm0 : 0 < m := hp (by omega)
      have hp1 : 128 ^ (i + 1) = 128 * 128 ^ i := by rw [Nat.pow_succ, Nat.mul_comm]
      have e1 : (128 * m + b.toNat % 128) * 128 ^ i = m * 128 ^ (i + 1) + b.toNat % 128 * 128 ^ i := by
        rw [hp1, Nat.add_mul, ← Nat.mul_assoc, Nat.mul_comm m 128]
      refine ⟨128 * m + b.toNat % 128, ?_, ?_, ?_, fun _ => by omega⟩
      · rw [hn, e1]; omega
      · rw [numB_big (by omega), dMore_eq (b := b) (by omega), show (128 * m + b.toNat % 128) / 128 = m by omega, hl]; rfl
      · rw [e1]
        have hc := pow_part ⟨i + 1, by omega⟩
        simp only at hc
        rw [hc] at hm ⊢
        have hK : 0 < 128 ^ (i + 1) := pow_pos' (i + 1)
        have hlt : m < 2 * 128 ^ (9 - (i + 1)) := Nat.lt_of_mul_lt_mul_right hm
        have h2 : (m + 1) * 128 ^ (i + 1) ≤ 2 * 128 ^ (9 - (i + 1)) * 128 ^ (i + 1) := Nat.mul_le_mul_right _ hlt
        have h3 : b.toNat % 128 * 128 ^ i < 128 ^ (i + 1) := by rw [hp1]; exact Nat.mul_lt_mul_of_pos_right (by omega) (pow_pos' i)
        rw [Nat.add_mul, Nat.one_mul] at h2
        omega
theorem readNum_canon {l r : List UInt8} {n : Nat} (h : readNum l 0 = (n, r, 0)) : l = numB n ++ r ∧ n < 18446744073709551616 := by
  unfold readNum at h
  rw [if_pos rfl] at h
  obtain ⟨m, hn, hl, hm, -⟩ := rdNum_canon l 0 0 n r (by omega) h
  have e : n = m := by rw [hn]; simp
  subst e
  exact ⟨hl, by simpa using hm⟩
theorem stepNum_canon {a b : Nat} {l r : List UInt8} {n : Nat} (h : stepNum a b (l, 0) = (n, r, 0)) : l = numB n ++ r ∧ n < 18446744073709551616 := by
  unfold stepNum at h
  split at h
  · injection h with _ h; injection h with _ h; cases h
  · exact readNum_canon h
theorem zig_unzig (n : Nat) (h : n < 18446744073709551616) : (zig (unzig n)).toNat = n ∧ -9223372036854775808 ≤ unzig n ∧ unzig n ≤ 9223372036854775807 := by
  unfold unzig zig
  split
  · rw [if_neg (by omega)]; omega
  · rw [if_pos (by omega)]; omega
theorem readInt_canon {l r : List UInt8} {k : Int} (h : readInt l 0 = (k, r, 0)) : l = intB k ++ r ∧ -9223372036854775808 ≤ k ∧ k ≤ 9223372036854775807 := by
  unfold readInt at h
  injection h with h1 h2
  have hq : readNum l 0 = ((readNum l 0).1, r, 0) := by rw [← h2]
  obtain ⟨hl, hn⟩ := readNum_canon hq
  obtain ⟨z1, z2, z3⟩ := zig_unzig _ hn
  subst h1
  refine ⟨?_, z2, z3⟩
  unfold intB
  rw [z1]; exact hl
theorem readText_canon {l r t : List UInt8} {most : Nat} (h : readText l 0 (most : Int) = (t, r, 0)) : l = textB t ++ r ∧ t.length ≤ most := by
  unfold readText rdText at h
  obtain ⟨n, l1, e, hq⟩ : ∃ n l1 e, readNum l 0 = (n, l1, e) := ⟨_, _, _, rfl⟩
  rw [hq] at h
  simp only at h
  by_cases he : e = 0
  · subst he
    rw [if_neg (by simp)] at h
    obtain ⟨hl, -⟩ := readNum_canon hq
    by_cases h1 : (most : Int).toNat < n
    · rw [if_pos h1] at h; injection h with _ h; injection h with _ h; cases h
    · rw [if_neg h1] at h
      by_cases h2 : l1.length < n
      · rw [if_pos h2] at h; injection h with _ h; injection h with _ h; cases h
      · rw [if_neg h2] at h
        injection h with h3 h4
        injection h4 with h4 _
        subst h3; subst h4
        have hlen : (l1.take n).length = n := by rw [List.length_take]; omega
        refine ⟨?_, by omega⟩
        unfold textB
        rw [hlen, List.append_assoc, List.take_append_drop]; exact hl
  · rw [if_pos he] at h; injection h with _ h; injection h with _ h; exact absurd h he

/-- Where no error is told, the bytes are the event's own. -/
theorem dec_canon (l : List UInt8) (h : (decE l).f = 0) :
    EvOk (decE l).id (decE l).tx (decE l).owner.length (decE l).tries (decE l).table (decE l).kind (decE l).text.length ∧ ((decE l).id : Int) ≤ 9223372036854775807 ∧ ((decE l).tx : Int) ≤ 9223372036854775807 ∧ -9223372036854775808 ≤ (decE l).key ∧ (decE l).key ≤ 9223372036854775807 ∧
    encB (decE l).id (decE l).tx ⟨(decE l).owner.toArray⟩ (decE l).tries (decE l).table (decE l).kind (decE l).key ⟨(decE l).text.toArray⟩ = l := by
  obtain ⟨q1, H1⟩ : ∃ q, Hid (stepNum 1 9223372036854775807 (l, 0) = q) := ⟨_, rfl⟩
  obtain ⟨q2, H2⟩ : ∃ q, Hid (stepNum 1 9223372036854775807 q1.2 = q) := ⟨_, rfl⟩
  obtain ⟨q3, H3⟩ : ∃ q, Hid (readText q2.2.1 q2.2.2 40 = q) := ⟨_, rfl⟩
  obtain ⟨q4, H4⟩ : ∃ q, Hid (stepNum 0 2147483647 q3.2 = q) := ⟨_, rfl⟩
  obtain ⟨q5, H5⟩ : ∃ q, Hid (stepNum 0 3 q4.2 = q) := ⟨_, rfl⟩
  obtain ⟨q6, H6⟩ : ∃ q, Hid (stepNum 1 4 q5.2 = q) := ⟨_, rfl⟩
  obtain ⟨q7, H7⟩ : ∃ q, Hid (readInt q6.2.1 q6.2.2 = q) := ⟨_, rfl⟩
  obtain ⟨q8, H8⟩ : ∃ q, Hid (readText q7.2.1 q7.2.2 40 = q) := ⟨_, rfl⟩
  have HE := decE_is H1 H2 H3 H4 H5 H6 H7 H8
  rw [HE] at h ⊢
  simp only at h ⊢
  obtain ⟨⟨z1, a1, b1⟩, ⟨z2, a2, b2⟩, ⟨z4, b4⟩, ⟨z5, b5⟩, z6, a6, b6⟩ := dec_good H1 H2 H3 H4 H5 H6 H7 H8 h
  have z8 := endErr_zero h
  have z7 := readText_zero H8 z8
  have z3 : q3.2.2 = 0 := (stepNum_zero H4 z4).1
  obtain ⟨n1, r1, e1⟩ := q1
  obtain ⟨n2, r2, e2⟩ := q2
  obtain ⟨t3, r3, e3⟩ := q3
  obtain ⟨n4, r4, e4⟩ := q4
  obtain ⟨n5, r5, e5⟩ := q5
  obtain ⟨n6, r6, e6⟩ := q6
  obtain ⟨k7, r7, e7⟩ := q7
  obtain ⟨t8, r8, e8⟩ := q8
  simp only at z1 z2 z3 z4 z5 z6 z7 z8 a1 b1 a2 b2 b4 b5 a6 b6 H2 H3 H4 H5 H6 H7 H8 h ⊢
  subst z1; subst z2; subst z3; subst z4; subst z5; subst z6; subst z7; subst z8
  obtain ⟨c1, -⟩ := stepNum_canon H1.out
  obtain ⟨c2, -⟩ := stepNum_canon H2.out
  obtain ⟨c3, l3⟩ := readText_canon (most := 40) H3.out
  obtain ⟨c4, -⟩ := stepNum_canon H4.out
  obtain ⟨c5, -⟩ := stepNum_canon H5.out
  obtain ⟨c6, -⟩ := stepNum_canon H6.out
  obtain ⟨c7, k70, k71⟩ := readInt_canon H7.out
  obtain ⟨c8, l8⟩ := readText_canon (most := 40) H8.out
  have c9 : r8 = [] := by
    unfold endErr at h
    split at h
    · cases h
    · rename_i hn
      exact List.eq_nil_of_length_eq_zero (Nat.eq_zero_of_not_pos fun hp => hn ⟨rfl, hp⟩)
  refine ⟨⟨by omega, by omega, l3, l8, by omega, by omega, by omega, by omega, by omega, by omega⟩, by omega, by omega, k70, k71, ?_⟩
  unfold encB
  simp only [Int.toNat_natCast]
  rw [c1, c2, c3, c4, c5, c6, c7, c8, c9]
  simp
end Go.Proofs.Ytdkankiohoocaaa
