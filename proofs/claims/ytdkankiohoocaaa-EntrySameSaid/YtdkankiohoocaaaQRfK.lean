/- Words for the walk of carrierref16.Decode. -/
import Derived.Test.YtdkankiohoocaaaQRfJ
import Derived.Test.YtdkankiohoocaaaQDecE
namespace Go.Proofs.Ytdkankiohoocaaa
set_option linter.unusedSimpArgs false
set_option linter.unusedVariables false
open Go Go.RowKit Go.Proofs

theorem iter_len {α : Type} (f : α → St → α × St) (hf : ∀ x st, (f x st).2.1.length ≤ st.1.length) : ∀ (k : Nat) (x : α) (st : St), (iter f k x st).2.1.length ≤ st.1.length := by
  intro k
  induction k with
  | zero => intro x st; exact Nat.le_refl _
  | succ k ih =>
    intro x st
    show (if st.2 ≠ 0 then _ else _ : α × St).2.1.length ≤ _
    split
    · exact Nat.le_refl _
    · exact Nat.le_trans (ih _ _) (hf x st)
theorem opOne_len (st : St) : (opOne st).2.1.length ≤ st.1.length := by
  unfold opOne
  exact Nat.le_trans (readText_len _ _ _) (Nat.le_trans (readInt_len _ _) (Nat.le_trans (stepNum_len _ _ _) (stepNum_len _ _ _)))
theorem getOps_len (st : St) : (getOps st).2.1.length ≤ st.1.length := by
  unfold getOps
  exact Nat.le_trans (iter_len opStep (fun _ st => opOne_len st) _ _ _) (stepNum_len _ _ _)
theorem plOne_len (st : St) : (plOne st).2.1.length ≤ st.1.length := by
  unfold plOne
  have h := Nat.le_trans (readText_len (stepNum 0 255 st).2.1 (stepNum 0 255 st).2.2 400) (stepNum_len 0 255 st)
  simp only
  split
  · exact h
  · split
    · exact Nat.zero_le _
    · exact h
theorem getPls_len (st : St) : (getPls st).2.1.length ≤ st.1.length := by
  unfold getPls
  exact Nat.le_trans (iter_len plStep (fun _ st => plOne_len st) _ _ _) (stepNum_len _ _ _)

/-- The result's block. -/
def PR0 (R : Nat) (w : World) : Prop := w.heap[R]? = some (.cells (ent0 0) 35 (0, 0))
/-- What is kept, and a slice that was read. -/
def PSl (P : World → Prop) (n k : Nat) (v : Value) (xs : List (List Value)) (w : World) : Prop := P w ∧ Sl w (fun b => n ≤ b) k v xs
section
variable {w0 w w' : World} {F : Nat → Prop} {b O c c1 : Nat} {A A1 : Option Addr} {st st' : St} {T : TypeId} {x : Array Value} {P : World → Prop}
theorem LM.size (h : LM w0 w F b O A c st T x P) : b < w.heap.size ∧ O < w.heap.size := ⟨lt_of_block h.rd, lt_of_block h.el⟩
theorem LM.andSl (h : LM w0 w F b O A c st T x P) {n k : Nat} {v : Value} {xs : List (List Value)} (hv : Sl w (fun b => n ≤ b) k v xs) (hn : b < n ∧ O < n) : LM w0 w F b O A c st T x (PSl P n k v xs) :=
  h.weak ⟨h.ex, hv⟩ (fun _ _ hq hc => ⟨h.kp _ _ hq.1 hc, hq.2.keep hc (fun b hb => by omega)⟩)
theorem LStep.andSl (h : LStep w0 w' F b O A c st T x P A1 c1 st') {n k : Nat} {v : Value} {xs : List (List Value)} (hv : Sl w' (fun b => n ≤ b) k v xs) (hn : b < n ∧ O < n) : LStep w0 w' F b O A c st T x (PSl P n k v xs) A1 c1 st' := by
  have hc : ∀ w1 w2 : World, ∀ (p : Addr) (u : Value), (p.block = b ∨ p.block = O) → Sl w1 (fun b => n ≤ b) k v xs → Sl (w1.setCell p u) (fun b => n ≤ b) k v xs := fun w1 w2 p u hp hs =>
    hs.keep (S := fun k => k = p.block) (Chg.setCell (S := fun k => k = p.block) (Chg.refl _ w1) (fun _ => rfl) u) (fun g hg e => by have : n ≤ g := hg; omega)
  refine ⟨h.at_.andSl hv hn, h.put.andSl (hc _ w' _ _ (.inl rfl) (hc _ w' _ _ (.inl rfl) hv)) hn, fun i s => (h.put' i s).andSl (hc _ w' _ _ (.inl rfl) (hc _ w' _ _ (.inl rfl) (hc _ w' _ _ (.inr rfl) hv))) hn⟩
theorem LM.getOps (h : LM w0 w F b O A c st T x P) (y : List OpD × St) (hq : Hid (getOps st = y)) :
    Calls Try.prog 48 #[rdr (.slice A st.1.length c) st.2] w fun en w' =>
      ∃ Ao n co xs A1 c1, en = .returned (.tuple #[.slice Ao n co, rdr (.slice A1 y.2.1.length c1) y.2.2]) ∧ LStep w0 w' F b O A c st T x (PSl P w.heap.size 4 (.slice Ao n co) (xs.map opCells)) A1 c1 y.2 ∧ (y.2.2 = 0 → xs = y.1) :=
  (rgetOps_any A c _ st.1 st.2 w h.bs h.len y hq).mono fun en w' ⟨Ao, n, co, xs, A1, c1, h1, h2, h3, h4, h5, h6⟩ =>
    ⟨Ao, n, co, xs, A1, c1, h1, (LStep.make h h5 h2 (by rw [← hq.out]; exact getOps_len st)).andSl h3 h.size, h4⟩
theorem LM.getEvs (h : LM w0 w F b O A c st T x P) (y : List PlD × St) (hq : Hid (getPls st = y)) :
    Calls Try.prog 49 #[rdr (.slice A st.1.length c) st.2] w fun en w' =>
      ∃ Ao n co xs A1 c1, en = .returned (.tuple #[.slice Ao n co, rdr (.slice A1 y.2.1.length c1) y.2.2]) ∧ LStep w0 w' F b O A c st T x (PSl P w.heap.size 9 (.slice Ao n co) (xs.map plCells)) A1 c1 y.2 ∧ (y.2.2 = 0 → xs = y.1) :=
  (rgetEvents_any A c _ st.1 st.2 w h.bs h.len y hq).mono fun en w' ⟨Ao, n, co, xs, A1, c1, h1, h2, h3, h4, h5, h6⟩ =>
    ⟨Ao, n, co, xs, A1, c1, h1, (LStep.make h h5 h2 (by rw [← hq.out]; exact getPls_len st)).andSl h3 h.size, h4⟩
theorem LM.start {W : World} {R : Nat} {l : List UInt8} (hs : Same w W) (hE : W.heap[O]? = some (.cells x T (0, 0))) (hR : PR0 R W) (hRO : R ≠ O) (hO : w.heap.size ≤ O) (hb : Bs W (fun k => F k ∧ k < w.heap.size) (.slice A l.length c) l) (hl : l.length ≤ 140737488355328) :
    LM w (W.alloc (.cells #[.slice A l.length c, .int .i64 0] 107)) F W.heap.size O A c (l, 0) T x (PR0 R) := by
  have hc := Chg.alloc_ (fun _ => False) W (.cells #[.slice A l.length c, .int .i64 0] 107)
  have l1 := lt_of_block hE
  have l2 := lt_of_block hR
  have l3 := hs.size
  exact ⟨heap_alloc_new W _, hb.same hc, hc.at_ hE (fun h => h), hs.trans hc, by omega, hl, hc.at_ hR (fun h => h), fun _ _ hp hc => hc.at_ hp (by omega)⟩
end
theorem iter_err_zero {st : St} {y : List OpD × St} (hy : Hid (getOps st = y)) (h : y.2.2 = 0) : st.2 = 0 := by
  have hy := hy.out
  subst hy
  exact (stepNum_zero (Lib.hid rfl) (iter_zero_err _ _ _ _ h)).1
end Go.Proofs.Ytdkankiohoocaaa
