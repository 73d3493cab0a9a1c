/- An event's bytes are read as the event. No program in sight but in the values. -/
import Derived.Test.YtpommgohciigoaaEvN
import Derived.Test.YtpommgohciigoaaBack
namespace Go.Proofs.Ytpommgohciigoaa
open Go Go.RowKit Go.Proofs

theorem stepNum_back (a b n : Nat) (r : List UInt8) (h0 : a ≤ n) (h1 : n ≤ b) (h2 : n < 18446744073709551616) : stepNum a b (numB n ++ r, 0) = (n, r, 0) := by
  unfold stepNum
  rw [readNum_back n r h2, if_neg]
  rintro ⟨-, h | h⟩ <;> simp at h <;> omega
theorem dec_enc (id tx : Int) (o : ByteArray) (tries table kind key : Int) (t : ByteArray) (hk : EvOk id tx o.size tries table kind t.size) (h1 : id ≤ 9223372036854775807) (h2 : tx ≤ 9223372036854775807) (h3 : -9223372036854775808 ≤ key) (h4 : key ≤ 9223372036854775807) :
    decV (decE (encB id tx o tries table kind key t)) = .tuple #[evv id tx o tries table kind key t, .int .i64 0] := by
  obtain ⟨k1, k2, k3, k4, k5, k6, k7, k8, k9, k10⟩ := hk
  have lo : o.data.toList.length = o.size := size_toList o
  have lt : t.data.toList.length = t.size := size_toList t
  have e0 : encB id tx o tries table kind key t = numB id.toNat ++ (numB tx.toNat ++ (textB o.data.toList ++ (numB tries.toNat ++ (numB table.toNat ++ (numB kind.toNat ++ (intB key ++ (textB t.data.toList ++ []))))))) := by
    unfold encB; simp
  have hd : decE (encB id tx o tries table kind key t) = ⟨id.toNat, tx.toNat, o.data.toList, tries.toNat, table.toNat, kind.toNat, key, t.data.toList, 0⟩ := by
    rw [e0]
    refine (decE_is (q1 := (id.toNat, _, 0)) (q2 := (tx.toNat, _, 0)) (q3 := (o.data.toList, _, 0)) (q4 := (tries.toNat, _, 0)) (q5 := (table.toNat, _, 0)) (q6 := (kind.toNat, _, 0)) (q7 := (key, _, 0)) (q8 := (t.data.toList, [], 0))
      (stepNum_back _ _ _ _ (by omega) (by omega) (by omega)) (stepNum_back _ _ _ _ (by omega) (by omega) (by omega)) (readText_back _ _ _ (by omega) (by omega)) (stepNum_back _ _ _ _ (by omega) (by omega) (by omega))
      (stepNum_back _ _ _ _ (by omega) (by omega) (by omega)) (stepNum_back _ _ _ _ (by omega) (by omega) (by omega)) (readInt_back _ _ h3 h4) (readText_back _ _ _ (by omega) (by omega))).trans ?_
    rfl
  rw [hd]
  unfold decV
  rw [if_pos rfl]
  have i1 : ((id.toNat : Nat) : Int) = id := by omega
  have i2 : ((tx.toNat : Nat) : Int) = tx := by omega
  have i3 : ((tries.toNat : Nat) : Int) = tries := by omega
  have i4 : ((table.toNat : Nat) : Int) = table := by omega
  have i5 : ((kind.toNat : Nat) : Int) = kind := by omega
  simp only [i1, i2, i3, i4, i5]
theorem enc_len (id tx : Int) (o : ByteArray) (tries table kind key : Int) (t : ByteArray) (hk : EvOk id tx o.size tries table kind t.size) (h1 : id ≤ 9223372036854775807) (h2 : tx ≤ 9223372036854775807) (h3 : -9223372036854775808 ≤ key) (h4 : key ≤ 9223372036854775807) :
    (encB id tx o tries table kind key t).length ≤ 200 ∧ 0 < (encB id tx o tries table kind key t).length := by
  obtain ⟨k1, k2, k3, k4, k5, k6, k7, k8, k9, k10⟩ := hk
  have ht1 : (textB o.data.toList).length ≤ 50 := by
    unfold textB; rw [List.length_append, size_toList]; have := (numB_len 10 o.size (by omega) (by omega)).1; omega
  have ht2 : (textB t.data.toList).length ≤ 50 := by
    unfold textB; rw [List.length_append, size_toList]; have := (numB_len 10 t.size (by omega) (by omega)).1; omega
  have hi7 : (intB key).length ≤ 10 := by
    unfold intB zig; split <;> exact numB_len10 (by omega)
  have l1 := numB_len10 (n := id) (by omega)
  have l1' := numB_pos (n := id.toNat) (by omega)
  have l2 := numB_len10 (n := tx) (by omega)
  have l4 := numB_len10 (n := tries) (by omega)
  have l5 := numB_len10 (n := table) (by omega)
  have l6 := numB_len10 (n := kind) (by omega)
  unfold encB
  simp only [List.length_append]
  omega
end Go.Proofs.Ytpommgohciigoaa
