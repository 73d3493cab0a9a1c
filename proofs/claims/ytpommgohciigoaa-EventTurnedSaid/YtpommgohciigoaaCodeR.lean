/- The walks of code.Reader. -/
import Derived.Test.YtpommgohciigoaaCodeT
namespace Go.Proofs.Ytpommgohciigoaa
open Go Go.RowKit Go.Proofs

/-- A code.Reader behind a pointer to block a: the bytes l that are left, and the error e; F: the blocks that are its own. -/
structure RdV (w : World) (F : Nat → Prop) (a : Nat) (v : Value) (l : List UInt8) (e : Int) : Prop where
  blk : w.heap[a]? = some (.cells #[v, .int .i64 e] 76 (0, 0))
  bs : Bs w (fun k => F k ∧ k ≠ a) v l
  mine : F a
  lt : Lt F w
def Rd (w : World) (F : Nat → Prop) (a : Nat) (l : List UInt8) (e : Int) : Prop := ∃ v, RdV w F a v l e
/-- What a call leaves of it: nothing but its own block has turned. -/
def RdPost (w w' : World) (F : Nat → Prop) (a : Nat) (l : List UInt8) (e : Int) : Prop := Rd w' F a l e ∧ Chg (fun k => k = a) w w'

theorem Rd.keep {w w' : World} {F S : Nat → Prop} {a : Nat} {l : List UInt8} {e : Int} (h : Rd w F a l e) (hc : Chg S w w') (hd : ∀ k, F k → ¬ S k) : Rd w' F a l e := by
  obtain ⟨v, h1, h2, h3, h4⟩ := h
  exact ⟨v, hc.at_ h1 (hd a h3), h2.keep hc (fun k hk => hd k hk.1), h3, h4.mono hc.size⟩
theorem RdPost.trans {w w1 w2 : World} {F : Nat → Prop} {a : Nat} {l : List UInt8} {e : Int} (hc : Chg (fun k => k = a) w w1) (h : RdPost w1 w2 F a l e) : RdPost w w2 F a l e := ⟨h.1, hc.trans h.2⟩
theorem RdPost.refl {w : World} {F : Nat → Prop} {a : Nat} {l : List UInt8} {e : Int} (h : Rd w F a l e) : RdPost w w F a l e := ⟨h, Chg.refl _ _⟩

theorem two_cells {w : World} {b : Nat} {v u : Value} {t : TypeId} (h : w.heap[b]? = some (.cells #[v, u] t (0, 0))) :
    w.cell? ⟨b, 0, none⟩ = some v ∧ w.cell? ⟨b, 1, none⟩ = some u ∧ w.frozen? ⟨b, 0, none⟩ = false ∧ w.frozen? ⟨b, 1, none⟩ = false := by
  simp [World.cell?, World.frozen?, h]
theorem two_set0 {w : World} {b : Nat} {v u x : Value} {t : TypeId} (h : w.heap[b]? = some (.cells #[v, u] t (0, 0))) : (w.setCell ⟨b, 0, none⟩ x).heap[b]? = some (.cells #[x, u] t (0, 0)) := by
  simp [World.setCell, Array.getElem?_modify, h]
theorem two_set1 {w : World} {b : Nat} {v u x : Value} {t : TypeId} (h : w.heap[b]? = some (.cells #[v, u] t (0, 0))) : (w.setCell ⟨b, 1, none⟩ x).heap[b]? = some (.cells #[v, x] t (0, 0)) := by
  simp [World.setCell, Array.getElem?_modify, h]

/-- The field p is another piece of the same bytes, or nil; the error is told anew. -/
theorem RdV.set {w : World} {F : Nat → Prop} {a : Nat} {v v' : Value} {l l' : List UInt8} {e : Int} (h : RdV w F a v l e) (hb : Bs w (fun k => F k ∧ k ≠ a) v' l') :
    RdPost w (w.setCell ⟨a, 0, none⟩ v') F a l' e := by
  have hc : Chg (fun k => k = a) w (w.setCell ⟨a, 0, none⟩ v') := Chg.setCell (S := fun k => k = a) (Chg.refl _ w) (p := ⟨a, 0, none⟩) (fun _ => rfl) v'
  exact ⟨⟨v', two_set0 h.blk, hb.keep hc (fun k hk => hk.2), h.mine, h.lt.mono hc.size⟩, hc⟩
theorem RdV.fail {w : World} {F : Nat → Prop} {a : Nat} {v : Value} {l : List UInt8} {e : Int} (h : RdV w F a v l e) (e' : Int) :
    RdPost w ((w.setCell ⟨a, 0, none⟩ (.slice none 0 0)).setCell ⟨a, 1, none⟩ (.int .i64 e')) F a [] e' := by
  have hc : Chg (fun k => k = a) w ((w.setCell ⟨a, 0, none⟩ (.slice none 0 0)).setCell ⟨a, 1, none⟩ (.int .i64 e')) :=
    Chg.setCell (S := fun k => k = a) (Chg.setCell (S := fun k => k = a) (Chg.refl _ w) (p := ⟨a, 0, none⟩) (fun _ => rfl) _) (p := ⟨a, 1, none⟩) (fun _ => rfl) _
  exact ⟨⟨.slice none 0 0, two_set1 (two_set0 h.blk), Bs.nil_ _ _, h.mine, h.lt.mono hc.size⟩, hc⟩

set_option maxHeartbeats 800000 in
theorem newr_any (v : Value) (l : List UInt8) (F : Nat → Prop) (w : World) (h : Bs w F v l) (hl : l.length ≤ 140737488355328) :
    Calls Try.prog 27 #[v] w fun e w' => ∃ a F', e = .returned (.pointer (some ⟨a, 0, none⟩)) ∧ Rd w' F' a l 0 ∧ Same w w' ∧ ∀ k, F' k → w.heap.size ≤ k := by
  go_enter Try.func27, Try.ntmps27
  go_wp2_with fail
  refine (clone_any v l F w h hl).mono ?_
  rintro e w1 ⟨v1, rfl, R1⟩
  obtain ⟨A1, cap1, rfl⟩ := R1.form
  go_wp2
  go_ret
  refine ⟨w1.heap.size, fun k => w.heap.size ≤ k ∧ k < w1.heap.size + 1, rfl, ⟨_, heap_alloc_new w1 _, ?_, ?_, ?_⟩, R1.2.alloc _, fun k hk => hk.1⟩
  · have hb := Own.bs (F := fun k => (w.heap.size ≤ k ∧ k < w1.heap.size + 1) ∧ k ≠ w1.heap.size) R1.1 (fun g hg => by have := R1.1.lt hg; omega)
    exact hb.same (Chg.alloc_ _ _ _)
  · have := R1.2.size; omega
  · intro k hk; simpa using hk.2

set_option maxHeartbeats 800000 in
theorem rerr_any (a : Nat) (F : Nat → Prop) (l : List UInt8) (e : Int) (w : World) (h : Rd w F a l e) :
    Calls Try.prog 40 #[.pointer (some ⟨a, 0, none⟩)] w fun en w' => en = .returned (.int .i64 e) ∧ w = w' := by
  obtain ⟨v, hR⟩ := h
  obtain ⟨c0, c1, f0, f1⟩ := two_cells hR.blk
  go_enter Try.func40, Try.ntmps40
  go_wp2
  go_ret
  exact ⟨rfl, rfl⟩

set_option maxHeartbeats 800000 in
theorem rleft_any (a : Nat) (F : Nat → Prop) (l : List UInt8) (e : Int) (w : World) (h : Rd w F a l e) :
    Calls Try.prog 42 #[.pointer (some ⟨a, 0, none⟩)] w fun en w' => en = .returned (.int .i64 l.length) ∧ w = w' := by
  obtain ⟨v, hR⟩ := h
  obtain ⟨c0, c1, f0, f1⟩ := two_cells hR.blk
  obtain ⟨A, cap, rfl, -, -, -⟩ := id hR.bs
  go_enter Try.func42, Try.ntmps42
  go_wp2
  go_ret
  exact ⟨rfl, rfl⟩

set_option maxHeartbeats 800000 in
theorem rfail_any (a : Nat) (F : Nat → Prop) (l : List UInt8) (e e' : Int) (w : World) (h : Rd w F a l e) :
    Calls Try.prog 44 #[.pointer (some ⟨a, 0, none⟩), .int .i64 e'] w fun en w' => en = .returned (.tuple #[]) ∧ RdPost w w' F a [] e' := by
  obtain ⟨v, hR⟩ := h
  obtain ⟨c0, c1, f0, f1⟩ := two_cells hR.blk
  go_enter Try.func44, Try.ntmps44
  go_wp2
  go_end0
  exact ⟨rfl, hR.fail e'⟩

set_option maxHeartbeats 800000 in
theorem rend_any (a : Nat) (F : Nat → Prop) (l : List UInt8) (e : Int) (w : World) (h : Rd w F a l e) :
    Calls Try.prog 31 #[.pointer (some ⟨a, 0, none⟩)] w fun en w' => en = .returned (.int .i64 (endErr l e)) ∧ w = w' := by
  by_cases he : e = 0
  · have he0 : (e == 0) = true := by simp [he]
    by_cases hl : 0 < l.length
    · have HE : Hid (endErr l e = 2) := by show _ = _; unfold endErr; rw [if_pos ⟨he, hl⟩]
      have hl0 : (0 : Int) < (l.length : Int) := by omega
      clear he
      go_enter Try.func31, Try.ntmps31
      go_wp2_with fail
      refine (rerr_any a F l e w h).mono ?_
      rintro _ _ ⟨rfl, rfl⟩
      go_wp2_with fail
      refine (rleft_any a F l e w h).mono ?_
      rintro _ _ ⟨rfl, rfl⟩
      go_wp2_with fail
      go_ret
      exact ⟨ret_int HE.out.symm, rfl⟩
    · have HE : Hid (endErr l e = e) := by show _ = _; unfold endErr; rw [if_neg (fun h => hl h.2)]
      have hl0 : (l.length : Int) ≤ 0 := by omega
      clear he
      go_enter Try.func31, Try.ntmps31
      go_wp2_with fail
      refine (rerr_any a F l e w h).mono ?_
      rintro _ _ ⟨rfl, rfl⟩
      go_wp2_with fail
      refine (rleft_any a F l e w h).mono ?_
      rintro _ _ ⟨rfl, rfl⟩
      go_wp2_with fail
      refine (rerr_any a F l e w h).mono ?_
      rintro _ _ ⟨rfl, rfl⟩
      go_wp2
      go_ret
      exact ⟨ret_int HE.out.symm, rfl⟩
  · have he0 : (e == 0) = false := by simp [he]
    have HE : Hid (endErr l e = e) := by show _ = _; unfold endErr; rw [if_neg (fun h => he h.1)]
    clear he
    go_enter Try.func31, Try.ntmps31
    go_wp2_with fail
    refine (rerr_any a F l e w h).mono ?_
    rintro _ _ ⟨rfl, rfl⟩
    go_wp2_with fail
    refine (rerr_any a F l e w h).mono ?_
    rintro _ _ ⟨rfl, rfl⟩
    go_wp2
    go_ret
    exact ⟨ret_int HE.out.symm, rfl⟩
end Go.Proofs.Ytpommgohciigoaa
