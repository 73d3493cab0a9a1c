/- Contracts of package code's functions at a written answer; steps between worlds. -/
import Derived.Test.YtpommgohciigoaaCodeQ
namespace Go.Proofs.Ytpommgohciigoaa
open Go Go.RowKit Go.Proofs

theorem Chg.since {F : Nat → Prop} {w w1 w2 : World} (h : Same w w1) (hc : Chg F w1 w2) (hF : ∀ k, F k → w.heap.size ≤ k) : Same w w2 := h.trans' hc (fun i hi hf => by have := hF i hf; omega)
theorem New.since {F F' : Nat → Prop} {w1 w2 : World} {n : Nat} (h : New F F' w1 w2) (hF : ∀ k, F k → n ≤ k) (hn : n ≤ w1.heap.size) : ∀ k, F' k → n ≤ k := fun k hk => by
  rcases h k hk with h | h
  · exact hF k h
  · omega

theorem Rd.mine {w : World} {F : Nat → Prop} {a : Nat} {l : List UInt8} {e : Int} (h : Rd w F a l e) : F a := by obtain ⟨v, h⟩ := h; exact h.mine
theorem alike_true (va vb : Value) (l : List UInt8) (F G : Nat → Prop) (w : World) (ha : Bs w F va l) (hb : Bs w G vb l) :
    Calls Try.prog 14 #[va, vb] w fun e w' => e = .returned (.bool true) ∧ ∃ n, w' = w.drewN n :=
  (alike_any va vb l l F G w ha hb).mono fun e w' h => by
    have e1 : sameB l l = true := by unfold sameB; simp
    rw [e1] at h; exact h
theorem alike_same (va vb : Value) (l : List UInt8) (F G : Nat → Prop) (w : World) (ha : Bs w F va l) (hb : Bs w G vb l) :
    Calls Try.prog 14 #[va, vb] w fun e w' => e = .returned (.bool true) ∧ Same w w' :=
  (alike_true va vb l F G w ha hb).mono fun e w' h => by
    obtain ⟨h1, n, rfl⟩ := h
    exact ⟨h1, (Chg.refl _ w).drewN n⟩
theorem rnum_is (a : Nat) (F : Nat → Prop) (l : List UInt8) (e : Int) (w : World) (h : Rd w F a l e) (n : Nat) (l1 : List UInt8) (e1 : Int) (hq : readNum l e = (n, l1, e1)) :
    Calls Try.prog 39 #[.pointer (some ⟨a, 0, none⟩)] w fun en w' => en = .returned (.int .u64 n) ∧ RdPost w w' F a l1 e1 :=
  (rnum_any' a F l e w h).mono fun e w' h => by rw [hq] at h; exact h

theorem Bs.bounds {w : World} {F : Nat → Prop} {A : Option Addr} {n c : Nat} {l : List UInt8} (h : Bs w F (.slice A n c) l) : n = l.length ∧ l.length ≤ c ∧ c ≤ 9223372036854775807 := by
  obtain ⟨A', c', h0, h1, h2, _⟩ := h
  injection h0 with _ e1 e2
  subst e1; subst e2
  refine ⟨rfl, h1, ?_⟩
  have : maxLen = 9223372036854775807 := by decide +kernel
  omega
theorem Rd.drew {w : World} {F : Nat → Prop} {a : Nat} {l : List UInt8} {e : Int} (h : Rd w F a l e) : Rd w.drew F a l e := h.keep (Chg.refl (fun _ => False) w).drew (fun _ _ h => h)
theorem Rd.drewN {w : World} {F : Nat → Prop} {a : Nat} {l : List UInt8} {e : Int} (h : Rd w F a l e) (n : Nat) : Rd (w.drewN n) F a l e := h.keep ((Chg.refl (fun _ => False) w).drewN n) (fun _ _ h => h)
theorem Wr.drew {w : World} {F : Nat → Prop} {a : Nat} {l : List UInt8} (h : Wr w F a l) : Wr w.drew F a l := h.keep (Chg.refl (fun _ => False) w).drew (fun _ _ h => h)
theorem join_nil (va : Value) (l : List UInt8) (F : Nat → Prop) (w : World) (ha : Bs w F va l) (hl : l.length ≤ 140737488355328) :
    Calls Try.prog 17 #[va, .slice none 0 0] w fun e w' => ∃ v', e = .returned v' ∧ Fresh w w' v' l :=
  (join_any va (.slice none 0 0) l [] F F w ha (Bs.nil_ _ _) (by simpa using hl)).mono fun e w' h => by rw [List.append_nil] at h; exact h
theorem pnum_is (v : Value) (F : Nat → Prop) (l : List UInt8) (e : Int) (w : World) (h : Bs w F v l) (n : Nat) (l1 : List UInt8) (e1 : Int) (hq : readNum l e = (n, l1, e1)) :
    Calls Try.prog 43 #[rdr v e] w fun en w' => ∃ v', en = .returned (.tuple #[.int .u64 n, rdr v' e1]) ∧ Bs w' F v' l1 ∧ Same w w' :=
  (pnum_any v F l e w h).mono fun en w' h => by rw [hq] at h; exact h
theorem rnumb_is (n : Int) (h0 : 0 ≤ n) (h1 : n ≤ 18446744073709551615) (w : World) (l : List UInt8) (hq : numB n.toNat = l) :
    Calls Try.prog 19 #[.int .u64 n] w fun e w' => ∃ v', e = .returned v' ∧ Fresh w w' v' l :=
  (rnum_any n h0 h1 w).mono fun en w' h => by rw [hq] at h; exact h
theorem bs_lit (w : World) (t : TypeId) (cs : Array Value) (l : List UInt8) (n : Nat) (hn : l.length = n) (hm : n ≤ maxLen) (hx : cs.toList = bvs l) :
    Bs (w.alloc (.cells cs t)) (fun k => k = w.heap.size) (.slice (some ⟨w.heap.size, 0, none⟩) n n) l := by
  subst hn
  refine ⟨_, _, rfl, Nat.le_refl _, hm, fun _ => ⟨_, 0, rfl, rfl, fun i x hi => ?_⟩⟩
  rw [World.cell?_alloc_at _ _ _ _ rfl, Nat.zero_add, ← Array.getElem?_toList, hx, bvs_get, hi]
  rfl

end Go.Proofs.Ytpommgohciigoaa
