/- What the calls of block.Device compute: a device is its safe bytes (32 a block) and the writes that wait. No program in sight. -/
import Derived.Test.YtnfmjbmcboiacaaBase
import Derived.Laws.CopyOwn
namespace Go.Proofs.Ytnfmjbmcboiacaa
open Go Go.RowKit

/-- A write that waits: of which block, the bytes. -/
structure Wt where
  i : Nat
  p : List UInt8
deriving DecidableEq

/-- Bytes laid over others from a place on. -/
def lay (s : List UInt8) (o : Nat) (p : List UInt8) : List UInt8 := s.take o ++ (p ++ s.drop (o + p.length))
theorem lay_len {s : List UInt8} {o : Nat} {p : List UInt8} (h : o + p.length ≤ s.length) : (lay s o p).length = s.length := by unfold lay; simp; omega
theorem lay_nil (s : List UInt8) (o : Nat) : lay s o [] = s := by unfold lay; simp
theorem bvs_lay (s : List UInt8) (o : Nat) (p : List UInt8) : bvs (lay s o p) = splice (bvs s) o (bvs p) := by
  unfold lay splice bvs
  simp [List.map_take, List.map_drop]

/-- A block of the safe bytes. -/
def blk (s : List UInt8) (i : Nat) : List UInt8 := (s.drop (32 * i)).take 32
theorem blk_len {s : List UInt8} {n i : Nat} (h : s.length = 32 * n) (hi : i < n) : (blk s i).length = 32 := by unfold blk; rw [List.length_take, List.length_drop]; omega

/-- A block as it is now: the writes of it that wait laid over it, one by one. -/
def now (i : Nat) : List UInt8 → List Wt → List UInt8
  | c, [] => c
  | c, t :: ts => now i (if t.i = i then lay c 0 t.p else c) ts

/-- What of the k-th of m writes is laid at a crash; nothing: it is lost. -/
def kept (lost : List Bool) (torn : Int) (m k : Nat) (p : List UInt8) : List UInt8 :=
  if lost.getD k false then [] else if k + 1 = m then p.take (min (max torn 0) p.length).toNat else p
/-- The safe bytes behind a crash: from the k-th write on. -/
def crash (lost : List Bool) (torn : Int) (m : Nat) : Nat → List UInt8 → List Wt → List UInt8
  | _, s, [] => s
  | k, s, t :: ts => crash lost torn m (k + 1) (lay s (32 * t.i) (kept lost torn m k t.p)) ts

/-- May the writes be? -/
def Fine (n : Nat) (s : List UInt8) (ts : List Wt) : Prop := s.length = 32 * n ∧ ∀ t ∈ ts, t.i < n ∧ t.p.length ≤ 32

theorem kept_le (lost : List Bool) (torn : Int) (m k : Nat) (p : List UInt8) : (kept lost torn m k p).length ≤ p.length := by
  unfold kept
  split
  · simp
  · split
    · rw [List.length_take]; omega
    · exact Nat.le_refl _
theorem crash_len {lost : List Bool} {torn : Int} {m n : Nat} : ∀ (ts : List Wt) (k : Nat) (s : List UInt8), Fine n s ts → (crash lost torn m k s ts).length = 32 * n := by
  intro ts
  induction ts with
  | nil => intro k s h; exact h.1
  | cons t ts ih =>
    intro k s h
    refine ih _ _ ⟨?_, fun x hx => h.2 x (by simp [hx])⟩
    have h1 := h.2 t (by simp)
    have h2 := kept_le lost torn m k t.p
    rw [lay_len (by rw [h.1]; omega)]
    exact h.1
theorem now_len {i : Nat} : ∀ (ts : List Wt) (c : List UInt8), c.length = 32 → (∀ t ∈ ts, t.p.length ≤ 32) → (now i c ts).length = 32 := by
  intro ts
  induction ts with
  | nil => intro c h _; exact h
  | cons t ts ih =>
    intro c h h'
    refine ih _ ?_ (fun x hx => h' x (by simp [hx]))
    split
    · rw [lay_len (by have := h' t (by simp); omega)]; exact h
    · exact h
end Go.Proofs.Ytnfmjbmcboiacaa
