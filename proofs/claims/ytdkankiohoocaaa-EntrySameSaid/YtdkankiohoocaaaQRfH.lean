/- Words for the walks of the document's getOps, getEvents and Decode: a reader in a variable, an element beside it. -/
import Derived.Test.YtdkankiohoocaaaQRf1
import Derived.Test.YtdkankiohoocaaaQFld2
namespace Go.Proofs.Ytdkankiohoocaaa
set_option linter.unusedSimpArgs false
set_option linter.unusedVariables false
open Go Go.RowKit Go.Proofs

/-- In the midst of a round: the reader in block b, the element in block O, and what else is kept. -/
structure LM (w0 w : World) (F : Nat → Prop) (b O : Nat) (A : Option Addr) (c : Nat) (st : St) (T : TypeId) (x : Array Value) (P : World → Prop) : Prop where
  rd : w.heap[b]? = some (.cells #[.slice A st.1.length c, .int .i64 st.2] 107 (0, 0))
  bs : Bs w (fun k => F k ∧ k < w0.heap.size) (.slice A st.1.length c) st.1
  el : w.heap[O]? = some (.cells x T (0, 0))
  same : Same w0 w
  old : w0.heap.size ≤ b ∧ w0.heap.size ≤ O ∧ b ≠ O
  len : st.1.length ≤ 140737488355328
  ex : P w
  kp : ∀ w w', P w → Chg (fun k => k = b ∨ k = O) w w' → P w'
section
variable {w0 w w' : World} {F : Nat → Prop} {b O c c1 : Nat} {A A1 : Option Addr} {st st' : St} {T : TypeId} {x : Array Value} {P : World → Prop}
theorem LM.keep (h : LM w0 w F b O A c st T x P) (hs : Same w w') : LM w0 w' F b O A c st T x P :=
  ⟨hs.at_ h.rd (fun h => h), h.bs.same hs, hs.at_ h.el (fun h => h), h.same.trans hs, h.old, h.len, h.kp _ _ h.ex (hs.any _), h.kp⟩
theorem LM.drew (h : LM w0 w F b O A c st T x P) : LM w0 w.drew F b O A c st T x P := h.keep (Chg.refl _ w).drew
theorem LM.store (h : LM w0 w F b O A c st T x P) (i : Nat) (v : Value) : LM w0 (w.setCell ⟨O, i, none⟩ v) F b O A c st T (x.setIfInBounds i v) P := by
  have hc : Chg (fun k => k = O) w (w.setCell ⟨O, i, none⟩ v) := Chg.setCell (S := fun k => k = O) (Chg.refl _ w) (p := ⟨O, i, none⟩) (fun _ => rfl) _
  refine ⟨hc.at_ h.rd h.old.2.2, h.bs.keep hc (fun k hk e => by have := h.old; omega), ?_, h.same.since hc (fun k hk => by have := h.old; omega), h.old, h.len, h.kp _ _ h.ex (hc.mono (fun _ h => .inr h)), h.kp⟩
  simp [World.setCell, Array.getElem?_modify, h.el]
theorem LM.put (h : LM w0 w F b O A c st T x P) (hb : Bs w (fun k => F k ∧ k < w0.heap.size) (.slice A1 st'.1.length c1) st'.1) (hl : st'.1.length ≤ 140737488355328) :
    LM w0 ((w.setCell ⟨b, 0, none⟩ (.slice A1 st'.1.length c1)).setCell ⟨b, 1, none⟩ (.int .i64 st'.2)) F b O A1 c1 st' T x P := by
  have hc : Chg (fun k => k = b) w ((w.setCell ⟨b, 0, none⟩ (.slice A1 st'.1.length c1)).setCell ⟨b, 1, none⟩ (.int .i64 st'.2)) :=
    Chg.setCell (S := fun k => k = b) (Chg.setCell (S := fun k => k = b) (Chg.refl _ w) (p := ⟨b, 0, none⟩) (fun _ => rfl) _) (p := ⟨b, 1, none⟩) (fun _ => rfl) _
  exact ⟨two_set1 (two_set0 h.rd), hb.keep hc (fun k hk e => by have := h.old; omega), hc.at_ h.el (fun e => h.old.2.2 e.symm), h.same.since hc (fun k hk => by have := h.old; omega), h.old, hl, h.kp _ _ h.ex (hc.mono (fun _ h => .inl h)), h.kp⟩
theorem LM.cell (h : LM w0 w F b O A c st T x P) (i : Nat) (v : Value) (hi : x[i]? = some v) : w.cell? ⟨O, i, none⟩ = some v ∧ w.frozen? ⟨O, i, none⟩ = false := by
  constructor
  · simp [World.cell?, h.el, hi]
  · simp [World.frozen?, h.el]
theorem LM.rdc (h : LM w0 w F b O A c st T x P) : w.cell? ⟨b, 0, none⟩ = some (.slice A st.1.length c) ∧ w.cell? ⟨b, 1, none⟩ = some (.int .i64 st.2) ∧ w.frozen? ⟨b, 0, none⟩ = false ∧ w.frozen? ⟨b, 1, none⟩ = false := two_cells h.rd
/-- What is kept may be said otherwise. -/
theorem LM.weak {Q : World → Prop} (h : LM w0 w F b O A c st T x P) (hq : Q w) (kq : ∀ w w', Q w → Chg (fun k => k = b ∨ k = O) w w' → Q w') : LM w0 w F b O A c st T x Q :=
  ⟨h.rd, h.bs, h.el, h.same, h.old, h.len, hq, kq⟩
end
/-- What a call leaves: w' is the world behind it; and behind the reader's store. -/
structure LStep (w0 w' : World) (F : Nat → Prop) (b O : Nat) (A : Option Addr) (c : Nat) (st : St) (T : TypeId) (x : Array Value) (P : World → Prop) (A1 : Option Addr) (c1 : Nat) (st' : St) : Prop where
  at_ : LM w0 w' F b O A c st T x P
  put : LM w0 ((w'.setCell ⟨b, 0, none⟩ (.slice A1 st'.1.length c1)).setCell ⟨b, 1, none⟩ (.int .i64 st'.2)) F b O A1 c1 st' T x P
  put' : ∀ i s, LM w0 (((w'.setCell ⟨O, i, none⟩ s).setCell ⟨b, 0, none⟩ (.slice A1 st'.1.length c1)).setCell ⟨b, 1, none⟩ (.int .i64 st'.2)) F b O A1 c1 st' T (x.setIfInBounds i s) P
section
variable {w0 w w' : World} {F : Nat → Prop} {b O c c1 : Nat} {A A1 : Option Addr} {st st' : St} {T : TypeId} {x : Array Value} {P : World → Prop}
theorem LStep.make (h : LM w0 w F b O A c st T x P) (hs : Same w w') (hb : Bs w' (fun k => F k ∧ k < w0.heap.size) (.slice A1 st'.1.length c1) st'.1) (hl : st'.1.length ≤ st.1.length) :
    LStep w0 w' F b O A c st T x P A1 c1 st' := by
  have hk := h.keep hs
  have hle : st'.1.length ≤ 140737488355328 := Nat.le_trans hl h.len
  refine ⟨hk, hk.put hb hle, fun i s => (hk.store i s).put (hb.keep (S := fun k => k = O) (Chg.setCell (S := fun k => k = O) (Chg.refl _ w') (p := ⟨O, i, none⟩) (fun _ => rfl) _) (fun k hk e => by have := h.old; omega)) hle⟩
theorem LM.get (h : LM w0 w F b O A c st T x P) (most : Nat) (hm : most ≤ 9223372036854775807) (q : Nat × St) (hq : Hid (stepNum 0 most st = q)) :
    Calls Try.prog 51 #[rdr (.slice A st.1.length c) st.2, .int .u64 most] w fun en w' =>
      ∃ A1 c1, en = .returned (.tuple #[.int .i64 (q.1 : Int), rdr (.slice A1 q.2.1.length c1) q.2.2]) ∧ LStep w0 w' F b O A c st T x P A1 c1 q.2 :=
  (rget_any most hm A c _ st.1 st.2 w h.bs q hq).mono fun en w' ⟨A1, c1, h1, h2, h3⟩ =>
    ⟨A1, c1, h1, LStep.make h h3 h2 (by rw [← hq.out]; exact stepNum_len _ _ _)⟩
theorem LM.whole (h : LM w0 w F b O A c st T x P) (q : Nat × St) (hq : Hid (wholeN st = q)) :
    Calls Try.prog 47 #[rdr (.slice A st.1.length c) st.2] w fun en w' =>
      ∃ A1 c1, en = .returned (.tuple #[.int .i64 (q.1 : Int), rdr (.slice A1 q.2.1.length c1) q.2.2]) ∧ LStep w0 w' F b O A c st T x P A1 c1 q.2 :=
  (rwhole_any A c _ st.1 st.2 w h.bs q hq).mono fun en w' ⟨A1, c1, h1, h2, h3⟩ =>
    ⟨A1, c1, h1, LStep.make h h3 h2 (by rw [← hq.out]; exact stepNum_len _ _ _)⟩
theorem LM.text (h : LM w0 w F b O A c st T x P) (most : Int) (h0 : 0 ≤ most) (h1 : most ≤ 1000) (q : List UInt8 × St) (hq : Hid (readText st.1 st.2 most = q)) :
    Calls Try.prog 52 #[rdr (.slice A st.1.length c) st.2, .int .i64 most] w fun en w' =>
      ∃ A1 c1, en = .returned (.tuple #[.string ⟨q.1.toArray⟩, rdr (.slice A1 q.2.1.length c1) q.2.2]) ∧ LStep w0 w' F b O A c st T x P A1 c1 q.2 :=
  (ptext_any _ _ st.1 st.2 most w h.bs h.len (by omega) (by omega)).mono fun en w' ⟨v', h1, h2, h3⟩ => by
    have hl := readText_len st.1 st.2 most
    rw [hq.out] at h1 h2 hl
    obtain ⟨A1, c1, hv, -, -, -⟩ := id h2
    subst hv
    exact ⟨A1, c1, h1, LStep.make h h3 h2 hl⟩
theorem LM.int (h : LM w0 w F b O A c st T x P) (q : Int × St) (hq : Hid (readInt st.1 st.2 = q)) :
    Calls Try.prog 50 #[rdr (.slice A st.1.length c) st.2] w fun en w' =>
      ∃ A1 c1, en = .returned (.tuple #[.int .i64 q.1, rdr (.slice A1 q.2.1.length c1) q.2.2]) ∧ LStep w0 w' F b O A c st T x P A1 c1 q.2 :=
  (pint_any _ _ st.1 st.2 w h.bs).mono fun en w' ⟨v', h1, h2, h3⟩ => by
    have hl := readInt_len st.1 st.2
    rw [hq.out] at h1 h2 hl
    obtain ⟨A1, c1, hv, -, -, -⟩ := id h2
    subst hv
    exact ⟨A1, c1, h1, LStep.make h h3 h2 hl⟩
end

/-- A slice that gathers rows, in no block of b and R; and a result's block R. -/
structure PR (w0 : World) (b R : Nat) (rx : Array Value) (RT e : TypeId) (k : Nat) (v : Value) (xs : List (List Value)) (w : World) : Prop where
  res : w.heap[R]? = some (.cells rx RT (0, 0))
  own : w.ownsRow 0 e k v xs.length xs.flatten
  row : ∀ g, v.ownBlock = some g → w0.heap.size ≤ g ∧ g ≠ b ∧ g ≠ R
  old : w0.heap.size ≤ R ∧ R ≠ b
/-- Where a loop stands. -/
structure LH (w0 w : World) (F : Nat → Prop) (b R : Nat) (rx : Array Value) (RT : TypeId) (A : Option Addr) (c : Nat) (st : St) (e : TypeId) (k : Nat) (v : Value) (xs : List (List Value)) : Prop where
  rd : w.heap[b]? = some (.cells #[.slice A st.1.length c, .int .i64 st.2] 107 (0, 0))
  bs : Bs w (fun k => F k ∧ k < w0.heap.size) (.slice A st.1.length c) st.1
  pr : PR w0 b R rx RT e k v xs w
  same : Same w0 w
  old : w0.heap.size ≤ b
  len : st.1.length ≤ 140737488355328
section
variable {w0 w w2 : World} {F : Nat → Prop} {b R O c k : Nat} {rx x : Array Value} {RT e T : TypeId} {A : Option Addr} {st : St} {v v' : Value} {xs : List (List Value)}
theorem PR.keep {S : Nat → Prop} (h : PR w0 b R rx RT e k v xs w) (hc : Chg S w w2) (hR : ¬ S R) (hv : ∀ g, v.ownBlock = some g → ¬ S g) : PR w0 b R rx RT e k v xs w2 :=
  ⟨hc.at_ h.res hR, ownsRow_keep' h.own hc hv, h.row, h.old⟩
theorem LH.rdc (h : LH w0 w F b R rx RT A c st e k v xs) : w.cell? ⟨b, 0, none⟩ = some (.slice A st.1.length c) ∧ w.cell? ⟨b, 1, none⟩ = some (.int .i64 st.2) := ⟨(two_cells h.rd).1, (two_cells h.rd).2.1⟩
theorem LH.keep (h : LH w0 w F b R rx RT A c st e k v xs) (hs : Same w w2) : LH w0 w2 F b R rx RT A c st e k v xs :=
  ⟨hs.at_ h.rd (fun h => h), h.bs.same hs, h.pr.keep hs (fun h => h) (fun _ _ h => h), h.same.trans hs, h.old, h.len⟩
/-- An element is made. -/
theorem LH.make (h : LH w0 w F b R rx RT A c st e k v xs) (x : Array Value) (T : TypeId) : LM w0 (w.alloc (.cells x T)) F b w.heap.size A c st T x (PR w0 b R rx RT e k v xs) := by
  have hs := Chg.alloc_ (fun _ => False) w (.cells x T)
  have l1 := lt_of_block h.rd
  have l2 := lt_of_block h.pr.res
  have l3 := h.same.size
  refine ⟨hs.at_ h.rd (fun h => h), h.bs.same hs, heap_alloc_new w _, h.same.trans hs, ⟨h.old, l3, by omega⟩, h.len, h.pr.keep hs (fun h => h) (fun _ _ h => h), fun w1 w2 hp hc => hp.keep hc (by have := hp.old; omega) (fun g hg => ?_)⟩
  have := hp.row g hg
  have := (World.ownsRow.lt h.pr.own g hg).2
  omega
/-- The element's row is appended. -/
theorem LM.more (h : LM w0 w F b O A c st T x (PR w0 b R rx RT e k v xs)) (o : Obj) (y : List Value) (ho : w2.ownsRow 0 e k v' (xs.length + 1) (xs.flatten ++ y)) (hg : (w.alloc o).grownBy w2 v.ownBlock) (hat : v'.ownBlock = v.ownBlock ∨ v'.ownBlock = some (w.alloc o).heap.size) :
    LH w0 w2 F b R rx RT A c st e k v' (xs ++ [y]) := by
  have hc : Chg (fun k => v.ownBlock = some k) (w.alloc o) w2 := Chg.of_grown hg (fun k h => h)
  have ha := h.keep (Chg.alloc_ _ w o)
  have hp := ha.ex
  have l1 := lt_of_block ha.rd
  have l2 := lt_of_block hp.res
  have l3 := ha.same.size
  have hnb : ¬ v.ownBlock = some b := fun e => (hp.row b e).2.1 rfl
  have hnR : ¬ v.ownBlock = some R := fun e => (hp.row R e).2.2 rfl
  have hrow : ∀ g, v'.ownBlock = some g → w0.heap.size ≤ g ∧ g ≠ b ∧ g ≠ R := by
    intro g hg'
    rcases hat with e | e
    · rw [e] at hg'; exact hp.row g hg'
    · rw [e] at hg'; injection hg' with hg'; omega
  refine ⟨hc.at_ ha.rd hnb, ha.bs.keep hc (fun k hk e => by have := (hp.row k e).1; omega), ⟨hc.at_ hp.res hnR, ?_, hrow, hp.old⟩, ha.same.trans' hc (fun i hi e => by have := (hp.row i e).1; omega), ha.old.1, ha.len⟩
  have e1 : (xs ++ [y]).length = xs.length + 1 := by simp
  have e2 : (xs ++ [y]).flatten = xs.flatten ++ y := by simp
  rw [e1, e2]
  exact ho
/-- An element that is given up. -/
theorem LM.back (h : LM w0 w F b O A c st T x (PR w0 b R rx RT e k v xs)) : LH w0 w F b R rx RT A c st e k v xs := ⟨h.rd, h.bs, h.ex, h.same, h.old.1, h.len⟩
theorem LH.sl (h : LH w0 w F b R rx RT A c st e k v xs) (hk : 0 < k) (hl : ∀ x ∈ xs, x.length = k) : Sl w (fun b => w0.heap.size ≤ b) k v xs := Sl.of_own hk h.pr.own rfl hl (fun g hg => (h.pr.row g hg).1)
end
end Go.Proofs.Ytdkankiohoocaaa
