/- An entry's bytes are read as the entry. No program in sight but in the values. -/
import Derived.Test.YtdkankiohoocaaaQWrQ
import Derived.Test.YtdkankiohoocaaaQDecE
import Derived.Test.YtdkankiohoocaaaQEv4
namespace Go.Proofs.Ytdkankiohoocaaa
set_option linter.unusedSimpArgs false
set_option linter.unusedVariables false
open Go Go.RowKit

/-- What of an entry is written. -/
def canE (e : EntD) : EntD :=
  if e.kind = 1 then { noEnt with kind := e.kind, tx := e.tx, next := e.next, nextID := e.nextID, ops := e.ops, evs := e.evs }
  else if e.kind = 8 then { noEnt with kind := e.kind, tx := e.tx, next := e.next, nextID := e.nextID, evs := e.evs, at_ := e.at_ }
  else if e.kind = 2 then { noEnt with kind := e.kind, tickN := e.tickN, max := e.max, opn := e.opn, tickAt := e.tickAt }
  else if e.kind = 3 ∨ e.kind = 4 ∨ e.kind = 5 ∨ e.kind = 6 then { noEnt with kind := e.kind, name := e.name, n := e.n }
  else if e.kind = 7 then { noEnt with kind := e.kind, name := e.name, n := e.n, at_ := e.at_ }
  else if e.kind = 9 ∨ e.kind = 10 then { noEnt with kind := e.kind, n := e.n }
  else { noEnt with kind := e.kind, n := e.n, ops := e.ops }
/-- May it be read again? -/
structure EntD.rd (e : EntD) : Prop where
  ok : e.ok
  kind : 1 ≤ e.kind ∧ e.kind ≤ 11
  fewO : e.ops.length ≤ 255
  fewE : e.evs.length ≤ 255
  fewN : e.opn.length ≤ 255
  ops : ∀ o ∈ e.ops, o.table ≤ 255 ∧ o.text.size ≤ 40
  evs : ∀ p ∈ e.evs, p.spool ≤ 255
  name : e.name.size ≤ 40

theorem whole_back {n : Int} (h : wholeI n) (r : List UInt8) : wholeN (numB n.toNat ++ r, 0) = (n.toNat, r, 0) := by
  obtain ⟨h0, h1⟩ := h
  exact stepNum_back _ _ _ _ (Nat.zero_le _) (by omega) (by omega)
theorem text_back (t : ByteArray) (most : Int) (r : List UInt8) (hm : (t.size : Int) ≤ most) (ht : t.size ≤ 1000) : readText (textB t.data.toList ++ r) 0 most = (t.data.toList, r, 0) :=
  readText_back _ _ _ (by rw [size_toList]; exact hm) (by rw [size_toList]; omega)
theorem arr_back (t : ByteArray) : (⟨t.data.toList.toArray⟩ : ByteArray) = t := by simp
theorem cast_back {n : Int} (h : 0 ≤ n) : ((n.toNat : Nat) : Int) = n := by omega
theorem opOne_back (o : OpD) (h : o.ok) (ht : o.table ≤ 255) (hx : o.text.size ≤ 40) (r : List UInt8) : opOne (opB o ++ r, 0) = (o, r, 0) := by
  obtain ⟨tb, gn, ky, tx⟩ := o
  obtain ⟨h1, h2, h3⟩ := h
  simp only at h1 h2 h3 ht hx
  have e0 : opB ⟨tb, gn, ky, tx⟩ ++ r = numB tb.toNat ++ (numB (if gn then 1 else 0) ++ (intB ky ++ (textB tx.data.toList ++ r))) := by unfold opB; simp
  have s1 : stepNum 0 255 (numB tb.toNat ++ (numB (if gn then 1 else 0) ++ (intB ky ++ (textB tx.data.toList ++ r))), 0) = (tb.toNat, _, 0) := stepNum_back _ _ _ _ (Nat.zero_le _) (by have := h1.1; omega) (by omega)
  have s2 : stepNum 0 1 (numB (if gn then 1 else 0) ++ (intB ky ++ (textB tx.data.toList ++ r)), 0) = (if gn then 1 else 0, _, 0) := stepNum_back _ _ _ _ (Nat.zero_le _) (by split <;> omega) (by split <;> omega)
  have s3 : readInt (intB ky ++ (textB tx.data.toList ++ r)) 0 = (ky, _, 0) := readInt_back _ _ h2.1 h2.2
  have s4 : readText (textB tx.data.toList ++ r) 0 40 = (tx.data.toList, r, 0) := text_back _ _ _ (by omega) (by omega)
  rw [e0]
  unfold opOne
  simp only [s1, s2, s3, s4, arr_back, cast_back h1.1]
  cases gn <;> rfl
theorem iter_ops : ∀ (l acc : List OpD) (r : List UInt8), (∀ o ∈ l, o.ok) → (∀ o ∈ l, o.table ≤ 255 ∧ o.text.size ≤ 40) → iter opStep l.length acc ((l.map opB).flatten ++ r, 0) = (acc ++ l, r, 0) := by
  intro l
  induction l with
  | nil => intro acc r _ _; simp [iter]
  | cons o l ih =>
    intro acc r hk hr
    have e0 : ((o :: l).map opB).flatten ++ r = opB o ++ ((l.map opB).flatten ++ r) := by simp
    rw [e0, List.length_cons, iter_more opStep _ _ _ rfl]
    unfold opStep
    rw [opOne_back o (hk o (by simp)) (hr o (by simp)).1 (hr o (by simp)).2]
    have := ih (acc ++ [o]) r (fun x hx => hk x (by simp [hx])) (fun x hx => hr x (by simp [hx]))
    unfold opStep at this
    rw [this]
    simp
theorem ops_back (l : List OpD) (hl : l.length ≤ 255) (hk : ∀ o ∈ l, o.ok) (hr : ∀ o ∈ l, o.table ≤ 255 ∧ o.text.size ≤ 40) (r : List UInt8) : getOps (opsB l ++ r, 0) = (l, r, 0) := by
  unfold getOps opsB
  rw [List.append_assoc, stepNum_back 0 255 l.length _ (Nat.zero_le _) hl (by omega)]
  simpa using iter_ops l [] r hk hr
theorem ops_many (l : List OpD) (hl : 255 < l.length) (hl2 : l.length ≤ 1000) (r : List UInt8) : getOps (opsB l ++ r, 0) = ([], [], 2) := by
  unfold getOps opsB
  have hs : stepNum 0 255 (numB l.length ++ ((l.map opB).flatten ++ r), 0) = (0, [], 2) := by
    unfold stepNum
    rw [readNum_back l.length _ (by omega), if_pos ⟨rfl, .inr hl⟩]
  rw [List.append_assoc, hs]
  rfl
theorem decE_enc (p : PlD) (h : p.ok) : decE (encB p.id p.tx p.owner p.tries p.table p.kind p.key p.text) = ⟨p.id.toNat, p.tx.toNat, p.owner.data.toList, p.tries.toNat, p.table.toNat, p.kind.toNat, p.key, p.text.data.toList, 0⟩ := by
  obtain ⟨h1, ⟨k1, k2, k3, k4, k5, k6, k7, k8, k9, k10⟩, h3, h4, h5, h6⟩ := h
  have lo : p.owner.data.toList.length = p.owner.size := size_toList _
  have lt : p.text.data.toList.length = p.text.size := size_toList _
  have e0 : encB p.id p.tx p.owner p.tries p.table p.kind p.key p.text = numB p.id.toNat ++ (numB p.tx.toNat ++ (textB p.owner.data.toList ++ (numB p.tries.toNat ++ (numB p.table.toNat ++ (numB p.kind.toNat ++ (intB p.key ++ (textB p.text.data.toList ++ []))))))) := by
    unfold encB; simp
  rw [e0]
  refine (decE_is (q1 := (p.id.toNat, _, 0)) (q2 := (p.tx.toNat, _, 0)) (q3 := (p.owner.data.toList, _, 0)) (q4 := (p.tries.toNat, _, 0)) (q5 := (p.table.toNat, _, 0)) (q6 := (p.kind.toNat, _, 0)) (q7 := (p.key, _, 0)) (q8 := (p.text.data.toList, [], 0))
    (stepNum_back _ _ _ _ (by omega) (by omega) (by omega)) (stepNum_back _ _ _ _ (by omega) (by omega) (by omega)) (readText_back _ _ _ (by omega) (by omega)) (stepNum_back _ _ _ _ (by omega) (by omega) (by omega))
    (stepNum_back _ _ _ _ (by omega) (by omega) (by omega)) (stepNum_back _ _ _ _ (by omega) (by omega) (by omega)) (readInt_back _ _ h5 h6) (readText_back _ _ _ (by omega) (by omega))).trans ?_
  rfl
theorem plOne_back (p : PlD) (h : p.ok) (hs : p.spool ≤ 255) (r : List UInt8) : plOne (plB p ++ r, 0) = (p, r, 0) := by
  have hl := encB_len p h
  have hd := decE_enc p h
  obtain ⟨h1, ⟨k1, k2, k3, k4, k5, k6, k7, k8, k9, k10⟩, h3, h4, h5⟩ := h
  have e0 : plB p ++ r = numB p.spool.toNat ++ (textB (encB p.id p.tx p.owner p.tries p.table p.kind p.key p.text) ++ r) := by unfold plB; simp
  have s1 : stepNum 0 255 (numB p.spool.toNat ++ (textB (encB p.id p.tx p.owner p.tries p.table p.kind p.key p.text) ++ r), 0) = (p.spool.toNat, _, 0) := stepNum_back _ _ _ _ (Nat.zero_le _) (by have := h1.1; omega) (by omega)
  have s2 : readText (textB (encB p.id p.tx p.owner p.tries p.table p.kind p.key p.text) ++ r) 0 400 = (encB p.id p.tx p.owner p.tries p.table p.kind p.key p.text, r, 0) := readText_back _ _ _ (by omega) (by omega)
  rw [e0]
  unfold plOne
  simp only [s1, s2, hd, ne_eq, not_true_eq_false, if_false, arr_back, cast_back h1.1]
  rw [cast_back (show 0 ≤ p.id by omega), cast_back (show 0 ≤ p.tx by omega), cast_back (show 0 ≤ p.tries by omega), cast_back (show 0 ≤ p.table by omega), cast_back (show 0 ≤ p.kind by omega)]
theorem iter_pls : ∀ (l acc : List PlD) (r : List UInt8), (∀ o ∈ l, o.ok) → (∀ o ∈ l, o.spool ≤ 255) → iter plStep l.length acc ((l.map plB).flatten ++ r, 0) = (acc ++ l, r, 0) := by
  intro l
  induction l with
  | nil => intro acc r _ _; simp [iter]
  | cons o l ih =>
    intro acc r hk hr
    have e0 : ((o :: l).map plB).flatten ++ r = plB o ++ ((l.map plB).flatten ++ r) := by simp
    rw [e0, List.length_cons, iter_more plStep _ _ _ rfl]
    unfold plStep
    rw [plOne_back o (hk o (by simp)) (hr o (by simp))]
    have := ih (acc ++ [o]) r (fun x hx => hk x (by simp [hx])) (fun x hx => hr x (by simp [hx]))
    unfold plStep at this
    rw [this]
    simp
theorem pls_back (l : List PlD) (hl : l.length ≤ 255) (hk : ∀ o ∈ l, o.ok) (hr : ∀ o ∈ l, o.spool ≤ 255) (r : List UInt8) : getPls (plsB l ++ r, 0) = (l, r, 0) := by
  unfold getPls plsB
  rw [List.append_assoc, stepNum_back 0 255 l.length _ (Nat.zero_le _) hl (by omega)]
  simpa using iter_pls l [] r hk hr
theorem iter_nums : ∀ (l acc : List Int) (r : List UInt8), (∀ n ∈ l, wholeI n) → iter numStep l.length acc (numsB l ++ r, 0) = (acc ++ l, r, 0) := by
  intro l
  induction l with
  | nil => intro acc r _; simp [iter, numsB]
  | cons o l ih =>
    intro acc r hk
    have e0 : numsB (o :: l) ++ r = numB o.toNat ++ (numsB l ++ r) := by simp [numsB]
    rw [e0, List.length_cons, iter_more numStep _ _ _ rfl]
    unfold numStep
    rw [whole_back (hk o (by simp)), cast_back (hk o (by simp)).1]
    have := ih (acc ++ [o]) r (fun x hx => hk x (by simp [hx]))
    unfold numStep at this
    rw [this]
    simp
theorem nums_back (l : List Int) (hl : l.length ≤ 255) (hk : ∀ n ∈ l, wholeI n) (r : List UInt8) : getNums (numB l.length ++ (numsB l ++ r), 0) = (l, r, 0) := by
  unfold getNums
  rw [stepNum_back 0 255 l.length _ (Nat.zero_le _) hl (by omega)]
  simpa using iter_nums l [] r hk
theorem int_back {n : Int} (h : i64I n) (r : List UInt8) : readInt (intB n ++ r) 0 = (n, r, 0) := readInt_back _ _ h.1 h.2
theorem int_back' {n : Int} (h : i64I n) : readInt (intB n) 0 = (n, [], 0) := by have := int_back h []; rwa [List.append_nil] at this
theorem whole_back' {n : Int} (h : wholeI n) : wholeN (numB n.toNat, 0) = (n.toNat, [], 0) := by have := whole_back h []; rwa [List.append_nil] at this
theorem ops_back' (l : List OpD) (hl : l.length ≤ 255) (hk : ∀ o ∈ l, o.ok) (hr : ∀ o ∈ l, o.table ≤ 255 ∧ o.text.size ≤ 40) : getOps (opsB l, 0) = (l, [], 0) := by have := ops_back l hl hk hr []; rwa [List.append_nil] at this
theorem pls_back' (l : List PlD) (hl : l.length ≤ 255) (hk : ∀ o ∈ l, o.ok) (hr : ∀ o ∈ l, o.spool ≤ 255) : getPls (plsB l, 0) = (l, [], 0) := by have := pls_back l hl hk hr []; rwa [List.append_nil] at this

theorem body_back (e : EntD) (h : e.rd) : rdBody e.kind (bodyB e, 0) = some (canE e, [], 0) := by
  obtain ⟨ok, hk, hfO, hfE, hfN, hO, hE, hN⟩ := h
  unfold rdBody bodyB canE
  by_cases h1 : e.kind = 1
  · simp only [h1, if_true]
    unfold idsB
    simp only [List.append_assoc, whole_back ok.tx, whole_back ok.next, whole_back ok.nextID, ops_back e.ops hfO ok.ops hO, pls_back' e.evs hfE ok.evs hE, cast_back ok.tx.1, cast_back ok.next.1, cast_back ok.nextID.1]
  · simp only [h1, if_false]
    by_cases h8 : e.kind = 8
    · simp only [h8, if_true]
      unfold idsB
      simp only [List.append_assoc, whole_back ok.tx, whole_back ok.next, whole_back ok.nextID, pls_back e.evs hfE ok.evs hE, int_back' ok.at_, cast_back ok.tx.1, cast_back ok.next.1, cast_back ok.nextID.1]
    · simp only [h8, if_false]
      by_cases h2 : e.kind = 2
      · simp only [h2, if_true]
        simp only [List.append_assoc, whole_back ok.tickN, whole_back ok.max, nums_back e.opn hfN ok.opn, int_back' ok.tickAt, cast_back ok.tickN.1, cast_back ok.max.1]
      · simp only [h2, if_false]
        by_cases h3 : e.kind = 3 ∨ e.kind = 4 ∨ e.kind = 5 ∨ e.kind = 6
        · simp only [h3, if_true]
          simp only [text_back e.name 40 _ (by omega) (by omega), whole_back' ok.n, cast_back ok.n.1, arr_back]
        · simp only [h3, if_false]
          by_cases h7 : e.kind = 7
          · simp only [h7, if_true]
            simp only [List.append_assoc, text_back e.name 40 _ (by omega) (by omega), whole_back ok.n, int_back' ok.at_, cast_back ok.n.1, arr_back]
          · simp only [h7, if_false]
            by_cases h9 : e.kind = 9 ∨ e.kind = 10
            · simp only [h9, if_true]
              simp only [whole_back' ok.n, cast_back ok.n.1]
            · simp only [h9, if_false]
              have h11 : e.kind = 11 := by omega
              simp only [h11, if_true]
              simp only [whole_back ok.n, ops_back' e.ops hfO ok.ops hO, cast_back ok.n.1]
theorem kind_back {k : Int} (h0 : 0 ≤ k) (h1 : k ≤ 255) : (((UInt8.ofNat k.toNat).toNat : Nat) : Int) = k := by
  rw [UInt8.toNat_ofNat']; omega
theorem ent_back (e : EntD) (h : e.rd) : decEnt (entB e) = (canE e, 0) := by
  unfold entB
  rw [decEnt_cons, kind_back (by have := h.kind; omega) (by have := h.kind; omega), body_back e h]
  rfl
theorem ent_many (e : EntD) (hk : e.kind = 11) (hn : wholeI e.n) (hl : 255 < e.ops.length) (hl2 : e.ops.length ≤ 1000) : decEnt (entB e) = (noEnt, 2) := by
  unfold entB
  rw [decEnt_cons, kind_back (by omega) (by omega), hk]
  unfold bodyB rdBody
  simp only [hk]
  have ho := ops_many e.ops hl hl2 []
  rw [List.append_nil] at ho
  simp [whole_back hn, ho, decOf, endErr]
end Go.Proofs.Ytdkankiohoocaaa
