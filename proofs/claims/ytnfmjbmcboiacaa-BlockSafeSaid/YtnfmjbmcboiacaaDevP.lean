/- Plain laws of devices: what a block is behind writes, whether they are laid one by one over a block or over all bytes. No program in sight. -/
import Derived.Test.YtnfmjbmcboiacaaDevSpec
namespace Go.Proofs.Ytnfmjbmcboiacaa
open Go Go.RowKit

theorem lay_get {s : List UInt8} {o : Nat} {p : List UInt8} (h : o + p.length ≤ s.length) (j : Nat) : (lay s o p)[j]? = if j < o then s[j]? else if j < o + p.length then p[j - o]? else s[j]? := by
  unfold lay
  rw [List.getElem?_append]
  have h1 : (s.take o).length = o := by rw [List.length_take]; omega
  rw [h1]
  by_cases hj : j < o
  · rw [if_pos hj, if_pos hj, List.getElem?_take, if_pos hj]
  · rw [if_neg hj, if_neg hj, List.getElem?_append]
    by_cases hk : j < o + p.length
    · rw [if_pos hk, if_pos (by omega)]
    · rw [if_neg hk, if_neg (by omega), List.getElem?_drop]
      congr 1
      omega
/-- One byte more is laid. -/
theorem lay_step {s : List UInt8} {o k : Nat} {p : List UInt8} {x : UInt8} (h : o + p.length ≤ s.length) (hx : p[k]? = some x) : (lay s o (p.take k)).set (o + k) x = lay s o (p.take (k + 1)) := by
  have hk : k < p.length := (List.getElem?_eq_some_iff.1 hx).1
  have l1 : (p.take k).length = k := by rw [List.length_take]; omega
  have l2 : (p.take (k + 1)).length = k + 1 := by rw [List.length_take]; omega
  apply List.ext_getElem?
  intro j
  rw [List.getElem?_set, lay_len (by omega), lay_get (by omega), lay_get (by omega), l1, l2]
  by_cases hj : o + k = j
  · subst hj
    rw [if_pos rfl, if_pos (by omega), if_neg (by omega), if_pos (by omega), show o + k - o = k by omega, List.getElem?_take, if_pos (by omega), hx]
  · rw [if_neg hj]
    by_cases h1 : j < o
    · rw [if_pos h1, if_pos h1]
    · rw [if_neg h1, if_neg h1]
      by_cases h2 : j < o + k
      · rw [if_pos h2, if_pos (by omega), List.getElem?_take, List.getElem?_take, if_pos (by omega), if_pos (by omega)]
      · rw [if_neg h2, if_neg (by omega)]
theorem lay_zero (s : List UInt8) (o : Nat) (p : List UInt8) : lay s o (p.take 0) = s := by rw [List.take_zero]; exact lay_nil s o
theorem lay_all (s : List UInt8) (o : Nat) (p : List UInt8) {k : Nat} (h : p.length ≤ k) : lay s o (p.take k) = lay s o p := by rw [List.take_of_length_le h]

theorem blk_get (s : List UInt8) (i j : Nat) : (blk s i)[j]? = if j < 32 then s[32 * i + j]? else none := by
  unfold blk
  rw [List.getElem?_take, List.getElem?_drop]
theorem blk_lay {s : List UInt8} {n i k : Nat} {p : List UInt8} (hs : s.length = 32 * n) (hi : i < n) (hk : k < n) (hp : p.length ≤ 32) : blk (lay s (32 * k) p) i = if k = i then lay (blk s i) 0 p else blk s i := by
  have hb := blk_len hs hi
  apply List.ext_getElem?
  intro j
  rw [blk_get, lay_get (by omega)]
  by_cases hki : k = i
  · subst hki
    rw [if_pos rfl, lay_get (by omega), blk_get]
    by_cases hj : j < 32
    · rw [if_pos hj, if_neg (show ¬ 32 * k + j < 32 * k by omega), if_neg (show ¬ j < 0 by omega), if_pos hj]
      by_cases h1 : j < p.length
      · rw [if_pos (show 32 * k + j < 32 * k + p.length by omega), if_pos (show j < 0 + p.length by omega)]; congr 1; omega
      · rw [if_neg (show ¬ 32 * k + j < 32 * k + p.length by omega), if_neg (show ¬ j < 0 + p.length by omega)]
    · rw [if_neg hj, if_neg (show ¬ j < 0 by omega), if_neg (show ¬ j < 0 + p.length by omega), if_neg hj]
  · rw [if_neg hki, blk_get]
    by_cases hj : j < 32
    · rw [if_pos hj, if_pos hj]
      by_cases h1 : 32 * i + j < 32 * k
      · rw [if_pos h1]
      · rw [if_neg h1, if_neg (by omega)]
    · rw [if_neg hj, if_neg hj]

/-- All bytes as they are now. -/
def allB : List UInt8 → List Wt → List UInt8
  | s, [] => s
  | s, t :: ts => allB (lay s (32 * t.i) t.p) ts
theorem Fine.tail {n : Nat} {s : List UInt8} {t : Wt} {ts : List Wt} (h : Fine n s (t :: ts)) : Fine n (lay s (32 * t.i) t.p) ts ∧ t.i < n ∧ t.p.length ≤ 32 := by
  have h1 := h.2 t (by simp)
  refine ⟨⟨?_, fun x hx => h.2 x (by simp [hx])⟩, h1⟩
  rw [lay_len (by rw [h.1]; omega)]; exact h.1
theorem allB_len {n : Nat} : ∀ (ts : List Wt) (s : List UInt8), Fine n s ts → (allB s ts).length = 32 * n := by
  intro ts
  induction ts with
  | nil => intro s h; exact h.1
  | cons t ts ih => intro s h; exact ih _ h.tail.1
/-- A block as it is now, told either way. -/
theorem blk_allB {n i : Nat} (hi : i < n) : ∀ (ts : List Wt) (s : List UInt8), Fine n s ts → blk (allB s ts) i = now i (blk s i) ts := by
  intro ts
  induction ts with
  | nil => intro s _; rfl
  | cons t ts ih =>
    intro s h
    obtain ⟨h1, h2, h3⟩ := h.tail
    show blk (allB (lay s (32 * t.i) t.p) ts) i = now i (if t.i = i then lay (blk s i) 0 t.p else blk s i) ts
    rw [ih _ h1, blk_lay h.1 hi h2 h3]
/-- The writes that are left at a crash. -/
def leftW (lost : List Bool) (torn : Int) (m : Nat) : Nat → List Wt → List Wt
  | _, [] => []
  | k, t :: ts => if lost.getD k false then leftW lost torn m (k + 1) ts else ⟨t.i, kept lost torn m k t.p⟩ :: leftW lost torn m (k + 1) ts
theorem allB_left (lost : List Bool) (torn : Int) (m : Nat) : ∀ (ts : List Wt) (k : Nat) (s : List UInt8), allB s (leftW lost torn m k ts) = crash lost torn m k s ts := by
  intro ts
  induction ts with
  | nil => intro k s; rfl
  | cons t ts ih =>
    intro k s
    unfold leftW
    show _ = crash lost torn m (k + 1) (lay s (32 * t.i) (kept lost torn m k t.p)) ts
    by_cases h : lost.getD k false = true
    · rw [if_pos h, ih]
      have e : kept lost torn m k t.p = [] := by unfold kept; rw [if_pos h]
      rw [e, lay_nil]
    · rw [if_neg h]
      show allB (lay s (32 * t.i) (kept lost torn m k t.p)) (leftW lost torn m (k + 1) ts) = _
      rw [ih]
theorem leftW_fine {lost : List Bool} {torn : Int} {m n : Nat} {s : List UInt8} : ∀ (ts : List Wt) (k : Nat), Fine n s ts → Fine n s (leftW lost torn m k ts) := by
  intro ts
  induction ts with
  | nil => intro k h; exact h
  | cons t ts ih =>
    intro k h
    have h1 := h.2 t (by simp)
    have h2 : Fine n s ts := ⟨h.1, fun x hx => h.2 x (by simp [hx])⟩
    have h3 := ih (k + 1) h2
    unfold leftW
    split
    · exact h3
    · refine ⟨h.1, fun x hx => ?_⟩
      rcases List.mem_cons.1 hx with rfl | hx
      · exact ⟨h1.1, Nat.le_trans (kept_le _ _ _ _ _) h1.2⟩
      · exact h3.2 x hx
/-- A sync loses nothing. -/
theorem crash_whole {m n : Nat} : ∀ (ts : List Wt) (k : Nat) (s : List UInt8), Fine n s ts → crash [] 32 m k s ts = allB s ts := by
  intro ts
  induction ts with
  | nil => intro k s _; rfl
  | cons t ts ih =>
    intro k s h
    obtain ⟨h1, h2, h3⟩ := h.tail
    have e : kept [] 32 m k t.p = t.p := by
      unfold kept
      rw [if_neg (by simp)]
      split
      · exact List.take_of_length_le (by omega)
      · rfl
    show crash [] 32 m (k + 1) (lay s (32 * t.i) (kept [] 32 m k t.p)) ts = allB (lay s (32 * t.i) t.p) ts
    rw [e]; exact ih _ _ h1
theorem Fine.done {n : Nat} {s : List UInt8} {ts : List Wt} (h : Fine n s ts) (lost : List Bool) (torn : Int) (m k : Nat) : Fine n (crash lost torn m k s ts) [] := ⟨crash_len ts k s h, by simp⟩
theorem Fine.more {n : Nat} {s : List UInt8} {ts : List Wt} {t : Wt} (h : Fine n s ts) (ht : t.i < n ∧ t.p.length ≤ 32) : Fine n s (ts ++ [t]) := ⟨h.1, fun x hx => by
  rcases List.mem_append.1 hx with hx | hx
  · exact h.2 x hx
  · rw [List.mem_singleton.1 hx]; exact ht⟩
end Go.Proofs.Ytnfmjbmcboiacaa
