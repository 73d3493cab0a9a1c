/- The walks of entry's scan.times, for each closure that it is handed. Printed by gen_times.py. -/
import Derived.Test.YtdkankiohoocaaaQSx
namespace Go.Proofs.Ytdkankiohoocaaa
set_option linter.unusedSimpArgs false
set_option linter.unusedVariables false
open Go Go.RowKit Go.Proofs

theorem stepNum_most (a b : Nat) (st : St) : (stepNum a b st).1 ≤ b := by
  have h0 : (readNum st.1 st.2).2.2 ≠ 0 → (readNum st.1 st.2).1 = 0 := by
    intro h
    unfold readNum at h ⊢
    split
    · rename_i he; rw [if_pos he] at h; exact (rdNum_em _ _ _ h).2
    · rfl
  unfold stepNum
  split
  · exact Nat.zero_le _
  · rename_i hn
    by_cases he : (readNum st.1 st.2).2.2 = 0
    · exact Nat.le_of_not_lt fun hc => hn ⟨he, .inr hc⟩
    · rw [h0 he]; exact Nat.zero_le _
theorem iter_zero {α : Type} (f : α → St → α × St) (x : α) (st : St) : iter f 0 x st = (x, st) := rfl
theorem iter_bad {α : Type} (f : α → St → α × St) (k : Nat) (x : α) (st : St) (h : st.2 ≠ 0) : iter f k x st = (x, st) := by
  cases k
  · rfl
  · show (if st.2 ≠ 0 then _ else _) = _; rw [if_pos h]
theorem iter_more {α : Type} (f : α → St → α × St) (k : Nat) (x : α) (st : St) (h : st.2 = 0) : iter f (k + 1) x st = iter f k (f x st).1 (f x st).2 := by
  show (if st.2 ≠ 0 then _ else _) = _; rw [if_neg (fun h' => h' h)]
/-- What a closure does, once: K is its number, c0 and c1 what it captures. -/
def Does (K : FuncId) (c0 c1 s a : Nat) (F : Nat → Prop) {α : Type} (f : α → St → α × St) (R : Nat → α → St → World → Prop) : Prop :=
  ∀ (k : Nat) (x : α) (st : St) (w : World), st.2 = 0 → Sx w F s a st → R (k + 1) x st w → Calls Try.prog K #[.pointer (some ⟨c0, 0, none⟩), .pointer (some ⟨c1, 0, none⟩)] w fun en w' => en = .returned (.tuple #[]) ∧ Sx w' F s a (f x st).2 ∧ R k (f x st).1 (f x st).2 w'

set_option maxHeartbeats 1600000 in
theorem times_ops {α : Type} (s a c0 c1 : Nat) (F : Nat → Prop) (f : α → St → α × St) (R : Nat → α → St → World → Prop) (st : St) (x0 : α) (w : World) (h : Sx w F s a st) (q : Nat × St) (hq : Hid (stepNum 0 255 st = q))
    (h0 : ∀ w', q.1 ≤ 255 → SxPost w w' F s a q.2 → R q.1 x0 q.2 w') (hk : ∀ n x st w w', R n x st w → Chg (fun k => k = s ∨ k = a) w w' → R n x st w') (hd : Does 74 c0 c1 s a F f R) (y : α × St) (hy : Hid (iter f q.1 x0 q.2 = y)) :
    Calls Try.prog 65 #[.pointer (some ⟨s, 0, none⟩), .func (.func 74) #[] #[.pointer (some ⟨c0, 0, none⟩), .pointer (some ⟨c1, 0, none⟩)]] w fun en w' => en = .returned (.tuple #[]) ∧ Sx w' F s a y.2 ∧ ∃ n, R n y.1 y.2 w' := by
  have hm : q.1 ≤ 255 := by rw [← hq.out]; exact stepNum_most _ _ _
  go_enter Try.func65, Try.ntmps65
  go_wp2_with fail
  refine (xnum_is 255 s a F st w h (by omega) q hq).mono ?_
  rintro _ w1 ⟨rfl, hP1⟩
  have hR1 := h0 w1 hm hP1
  obtain ⟨hS1, hC1⟩ := hP1
  clear h0 hC1 h hq
  go_wp2_with fail
  go_loopw [4] (fun v wr => ∃ (k : Nat) (x : α) (st : St), v = .int .i64 k ∧ k ≤ 255 ∧ Sx wr F s a st ∧ R k x st wr ∧ Hid (iter f k x st = y)) (fun v _ => (intOf v).toNat)
  case atStart => exact ⟨q.1, x0, q.2, rfl, hm, hS1, hR1, hy⟩
  case round =>
    clear hy hR1 hS1 hm
    obtain ⟨k, x, st', rfl, hk255, hS, hR, hI⟩ := hrel
    by_cases hb : st'.2 = 0
    · have HB := hb_false hb
      have HZ := Lib.hid hb
      clear hb
      cases k with
      | zero =>
        have HY : Hid (y = (x, st')) := hI.out.symm
        go_wp2_with fail
        go_ways
        all_goals
          go_end0
          rw [HY.out]
          exact ⟨rfl, hS, _, hR⟩
      | succ k =>
        have hk1 : (0 : Int) < ((k + 1 : Nat) : Int) := by omega
        go_wp2_with fail
        refine (sbad_is false s a F st' wr hS HB).mono ?_
        rintro _ w2 ⟨rfl, hS2, hC2⟩
        have hR2 := hk _ _ _ _ _ hR hC2
        go_wp2_with fail
        refine (hd k x st' w2 HZ.out hS2 hR2).mono ?_
        rintro _ w3 ⟨rfl, hS3, hR3⟩
        go_wp2_with fail
        go_roundw
        case rel => exact ⟨k, _, _, by go_num, by omega, hS3, hR3, by show _ = _; rw [← iter_more f k x st' HZ.out]; exact hI.out⟩
        case measure => simp [intOf]
    · have HB := hb_true hb
      have HY : Hid (y = (x, st')) := by show _ = _; rw [← hI.out]; exact iter_bad f k x st' hb
      clear hb
      cases k with
      | zero =>
        go_wp2_with fail
        go_end0
        rw [HY.out]
        exact ⟨rfl, hS, _, hR⟩
      | succ k =>
        have hk1 : (0 : Int) < ((k + 1 : Nat) : Int) := by omega
        go_wp2_with fail
        refine (sbad_is true s a F st' wr hS HB).mono ?_
        rintro _ w2 ⟨rfl, hS2, hC2⟩
        have hR2 := hk _ _ _ _ _ hR hC2
        go_wp2_with fail
        go_end0
        rw [HY.out]
        exact ⟨rfl, hS2, _, hR2⟩

set_option maxHeartbeats 1600000 in
theorem times_events {α : Type} (s a c0 c1 : Nat) (F : Nat → Prop) (f : α → St → α × St) (R : Nat → α → St → World → Prop) (st : St) (x0 : α) (w : World) (h : Sx w F s a st) (q : Nat × St) (hq : Hid (stepNum 0 255 st = q))
    (h0 : ∀ w', q.1 ≤ 255 → SxPost w w' F s a q.2 → R q.1 x0 q.2 w') (hk : ∀ n x st w w', R n x st w → Chg (fun k => k = s ∨ k = a) w w' → R n x st w') (hd : Does 76 c0 c1 s a F f R) (y : α × St) (hy : Hid (iter f q.1 x0 q.2 = y)) :
    Calls Try.prog 65 #[.pointer (some ⟨s, 0, none⟩), .func (.func 76) #[] #[.pointer (some ⟨c0, 0, none⟩), .pointer (some ⟨c1, 0, none⟩)]] w fun en w' => en = .returned (.tuple #[]) ∧ Sx w' F s a y.2 ∧ ∃ n, R n y.1 y.2 w' := by
  have hm : q.1 ≤ 255 := by rw [← hq.out]; exact stepNum_most _ _ _
  go_enter Try.func65, Try.ntmps65
  go_wp2_with fail
  refine (xnum_is 255 s a F st w h (by omega) q hq).mono ?_
  rintro _ w1 ⟨rfl, hP1⟩
  have hR1 := h0 w1 hm hP1
  obtain ⟨hS1, hC1⟩ := hP1
  clear h0 hC1 h hq
  go_wp2_with fail
  go_loopw [4] (fun v wr => ∃ (k : Nat) (x : α) (st : St), v = .int .i64 k ∧ k ≤ 255 ∧ Sx wr F s a st ∧ R k x st wr ∧ Hid (iter f k x st = y)) (fun v _ => (intOf v).toNat)
  case atStart => exact ⟨q.1, x0, q.2, rfl, hm, hS1, hR1, hy⟩
  case round =>
    clear hy hR1 hS1 hm
    obtain ⟨k, x, st', rfl, hk255, hS, hR, hI⟩ := hrel
    by_cases hb : st'.2 = 0
    · have HB := hb_false hb
      have HZ := Lib.hid hb
      clear hb
      cases k with
      | zero =>
        have HY : Hid (y = (x, st')) := hI.out.symm
        go_wp2_with fail
        go_ways
        all_goals
          go_end0
          rw [HY.out]
          exact ⟨rfl, hS, _, hR⟩
      | succ k =>
        have hk1 : (0 : Int) < ((k + 1 : Nat) : Int) := by omega
        go_wp2_with fail
        refine (sbad_is false s a F st' wr hS HB).mono ?_
        rintro _ w2 ⟨rfl, hS2, hC2⟩
        have hR2 := hk _ _ _ _ _ hR hC2
        go_wp2_with fail
        refine (hd k x st' w2 HZ.out hS2 hR2).mono ?_
        rintro _ w3 ⟨rfl, hS3, hR3⟩
        go_wp2_with fail
        go_roundw
        case rel => exact ⟨k, _, _, by go_num, by omega, hS3, hR3, by show _ = _; rw [← iter_more f k x st' HZ.out]; exact hI.out⟩
        case measure => simp [intOf]
    · have HB := hb_true hb
      have HY : Hid (y = (x, st')) := by show _ = _; rw [← hI.out]; exact iter_bad f k x st' hb
      clear hb
      cases k with
      | zero =>
        go_wp2_with fail
        go_end0
        rw [HY.out]
        exact ⟨rfl, hS, _, hR⟩
      | succ k =>
        have hk1 : (0 : Int) < ((k + 1 : Nat) : Int) := by omega
        go_wp2_with fail
        refine (sbad_is true s a F st' wr hS HB).mono ?_
        rintro _ w2 ⟨rfl, hS2, hC2⟩
        have hR2 := hk _ _ _ _ _ hR hC2
        go_wp2_with fail
        go_end0
        rw [HY.out]
        exact ⟨rfl, hS2, _, hR2⟩

set_option maxHeartbeats 1600000 in
theorem times_fields {α : Type} (s a c0 c1 : Nat) (F : Nat → Prop) (f : α → St → α × St) (R : Nat → α → St → World → Prop) (st : St) (x0 : α) (w : World) (h : Sx w F s a st) (q : Nat × St) (hq : Hid (stepNum 0 255 st = q))
    (h0 : ∀ w', q.1 ≤ 255 → SxPost w w' F s a q.2 → R q.1 x0 q.2 w') (hk : ∀ n x st w w', R n x st w → Chg (fun k => k = s ∨ k = a) w w' → R n x st w') (hd : Does 66 c0 c1 s a F f R) (y : α × St) (hy : Hid (iter f q.1 x0 q.2 = y)) :
    Calls Try.prog 65 #[.pointer (some ⟨s, 0, none⟩), .func (.func 66) #[] #[.pointer (some ⟨c0, 0, none⟩), .pointer (some ⟨c1, 0, none⟩)]] w fun en w' => en = .returned (.tuple #[]) ∧ Sx w' F s a y.2 ∧ ∃ n, R n y.1 y.2 w' := by
  have hm : q.1 ≤ 255 := by rw [← hq.out]; exact stepNum_most _ _ _
  go_enter Try.func65, Try.ntmps65
  go_wp2_with fail
  refine (xnum_is 255 s a F st w h (by omega) q hq).mono ?_
  rintro _ w1 ⟨rfl, hP1⟩
  have hR1 := h0 w1 hm hP1
  obtain ⟨hS1, hC1⟩ := hP1
  clear h0 hC1 h hq
  go_wp2_with fail
  go_loopw [4] (fun v wr => ∃ (k : Nat) (x : α) (st : St), v = .int .i64 k ∧ k ≤ 255 ∧ Sx wr F s a st ∧ R k x st wr ∧ Hid (iter f k x st = y)) (fun v _ => (intOf v).toNat)
  case atStart => exact ⟨q.1, x0, q.2, rfl, hm, hS1, hR1, hy⟩
  case round =>
    clear hy hR1 hS1 hm
    obtain ⟨k, x, st', rfl, hk255, hS, hR, hI⟩ := hrel
    by_cases hb : st'.2 = 0
    · have HB := hb_false hb
      have HZ := Lib.hid hb
      clear hb
      cases k with
      | zero =>
        have HY : Hid (y = (x, st')) := hI.out.symm
        go_wp2_with fail
        go_ways
        all_goals
          go_end0
          rw [HY.out]
          exact ⟨rfl, hS, _, hR⟩
      | succ k =>
        have hk1 : (0 : Int) < ((k + 1 : Nat) : Int) := by omega
        go_wp2_with fail
        refine (sbad_is false s a F st' wr hS HB).mono ?_
        rintro _ w2 ⟨rfl, hS2, hC2⟩
        have hR2 := hk _ _ _ _ _ hR hC2
        go_wp2_with fail
        refine (hd k x st' w2 HZ.out hS2 hR2).mono ?_
        rintro _ w3 ⟨rfl, hS3, hR3⟩
        go_wp2_with fail
        go_roundw
        case rel => exact ⟨k, _, _, by go_num, by omega, hS3, hR3, by show _ = _; rw [← iter_more f k x st' HZ.out]; exact hI.out⟩
        case measure => simp [intOf]
    · have HB := hb_true hb
      have HY : Hid (y = (x, st')) := by show _ = _; rw [← hI.out]; exact iter_bad f k x st' hb
      clear hb
      cases k with
      | zero =>
        go_wp2_with fail
        go_end0
        rw [HY.out]
        exact ⟨rfl, hS, _, hR⟩
      | succ k =>
        have hk1 : (0 : Int) < ((k + 1 : Nat) : Int) := by omega
        go_wp2_with fail
        refine (sbad_is true s a F st' wr hS HB).mono ?_
        rintro _ w2 ⟨rfl, hS2, hC2⟩
        have hR2 := hk _ _ _ _ _ hR hC2
        go_wp2_with fail
        go_end0
        rw [HY.out]
        exact ⟨rfl, hS2, _, hR2⟩
end Go.Proofs.Ytdkankiohoocaaa
/- A variable that gathers rows, which a closure appends to; scan.event. -/
namespace Go.Proofs.Ytdkankiohoocaaa
set_option linter.unusedSimpArgs false
set_option linter.unusedVariables false
open Go Go.RowKit Go.Proofs

theorem info_op : (Try.prog.info? 47).map (fun i => (i.zero, i.size, i.bytes)) = some (some (.agg #[.int .i64 0, .bool false, .int .i64 0, .string ⟨#[]⟩]), 4, 40) := by kernel_rfl
theorem info_pl : (Try.prog.info? 51).map (fun i => (i.zero, i.size, i.bytes)) = some (some (.agg #[.int .i64 0, .int .i64 0, .int .i64 0, .string ⟨#[]⟩, .int .i64 0, .int .i64 0, .int .u8 0, .int .i64 0, .string ⟨#[]⟩]), 9, 88) := by kernel_rfl
theorem info_i64 : (Try.prog.info? 2).map (fun i => (i.zero, i.size, i.bytes)) = some (some (.int .i64 0), 1, 8) := by kernel_rfl

/-- What a closure has gathered: c0 holds the scan's pointer, c1 the slice v, whose rows are xs. -/
structure App (tl e : TypeId) (k : Nat) (w0 : World) (s a c0 c1 : Nat) (xs : List (List Value)) (w : World) (v : Value) : Prop where
  cap : w.heap[c0]? = some (.cells #[.pointer (some ⟨s, 0, none⟩)] 93 (0, 0))
  var : w.heap[c1]? = some (.cells #[v] tl (0, 0))
  own : w.ownsRow 0 e k v xs.length xs.flatten
  chg : Chg (fun k => k = s ∨ k = a) w0 w
  row : ∀ g, v.ownBlock = some g → w0.heap.size ≤ g ∧ g ≠ c0 ∧ g ≠ c1
  old : s < w0.heap.size ∧ a < w0.heap.size ∧ w0.heap.size ≤ c0 ∧ w0.heap.size ≤ c1 ∧ c0 ≠ c1
section
variable {tl e : TypeId} {k : Nat} {w0 w w' w2 : World} {s a c0 c1 : Nat} {xs : List (List Value)} {v v' : Value}
theorem ownsRow_keep' {S : Nat → Prop} {base : Nat} {size n : Nat} {ys : List Value} (h : w.ownsRow base e size v n ys) (hc : Chg S w w') (hS : ∀ g, v.ownBlock = some g → ¬ S g) : w'.ownsRow base e size v n ys := by
  obtain ⟨h1, h2⟩ := h
  refine ⟨h1, ?_⟩
  rcases h2 with h0 | ⟨g, cap, cur, rfl, hb, hg, r⟩
  · exact .inl h0
  · exact .inr ⟨g, cap, cur, rfl, hb, hc.at_ hg (hS g rfl), r⟩
theorem App.call (h : App tl e k w0 s a c0 c1 xs w v) (hc : Chg (fun k => k = s ∨ k = a) w w') : App tl e k w0 s a c0 c1 xs w' v := by
  have ho := h.old
  exact ⟨hc.at_ h.cap (by omega), hc.at_ h.var (by omega), ownsRow_keep' h.own hc (fun g hg => by have := h.row g hg; omega), h.chg.trans hc, h.row, h.old⟩
theorem App.keep {S : Nat → Prop} (h : App tl e k w0 s a c0 c1 xs w v) (hc : Chg S w w') (hS : ∀ k, k < w.heap.size → ¬ S k) : App tl e k w0 s a c0 c1 xs w' v :=
  h.call (hc.mono' (fun i hi hs => absurd hs (hS i hi)))
theorem App.alloc (h : App tl e k w0 s a c0 c1 xs w v) (o : Obj) : App tl e k w0 s a c0 c1 xs (w.alloc o) v := h.call (Chg.alloc_ _ _ _)
theorem App.cells (h : App tl e k w0 s a c0 c1 xs w v) : w.cell? ⟨c0, 0, none⟩ = some (.pointer (some ⟨s, 0, none⟩)) ∧ w.cell? ⟨c1, 0, none⟩ = some v ∧ w.frozen? ⟨c1, 0, none⟩ = false :=
  ⟨cell_of_one h.cap, cell_of_one h.var, free_of_one h.var⟩
/-- What an append leaves, and the store of what it handed back. -/
theorem App.more (h : App tl e k w0 s a c0 c1 xs w v) (x : List Value) (ho : w2.ownsRow 0 e k v' (xs.length + 1) (xs.flatten ++ x)) (hg : w.grownBy w2 v.ownBlock) (hat : v'.ownBlock = v.ownBlock ∨ v'.ownBlock = some w.heap.size) :
    App tl e k w0 s a c0 c1 (xs ++ [x]) (w2.setCell ⟨c1, 0, none⟩ v') v' := by
  have hc2 : Chg (fun k => v.ownBlock = some k) w w2 := Chg.of_grown hg (fun k h => h)
  have ho' := h.old
  have l0 := lt_of_block h.cap
  have l1 := lt_of_block h.var
  have hs := h.chg.size
  have hrow : ∀ g, v'.ownBlock = some g → w0.heap.size ≤ g ∧ g ≠ c0 ∧ g ≠ c1 := by
    intro g hg'
    rcases hat with e | e
    · rw [e] at hg'; exact h.row g hg'
    · rw [e] at hg'; injection hg' with hg'; omega
  have hn0 : ¬ v.ownBlock = some c0 := fun e => (h.row c0 e).2.1 rfl
  have hn1 : ¬ v.ownBlock = some c1 := fun e => (h.row c1 e).2.2 rfl
  refine ⟨?_, ?_, ?_, ?_, hrow, h.old⟩
  · rw [Below.heap_setCell _ _ _ _ (show c0 ≠ c1 by omega)]; exact hc2.at_ h.cap hn0
  · exact one_setCell (hc2.at_ h.var hn1)
  · have e1 : (xs ++ [x]).length = xs.length + 1 := by simp
    have e2 : (xs ++ [x]).flatten = xs.flatten ++ x := by simp
    rw [e1, e2]
    exact ownsRow_setCell_other ho (fun e => (hrow c1 e).2.2 rfl) _
  · exact (h.chg.trans' hc2 (fun i hi e => by have := (h.row i e).1; omega)).setCell (fun hi => by simp at hi; omega) _

/-- In the midst of a round: the element is made in block O. -/
structure InO (tl e : TypeId) (k : Nat) (w0 : World) (F : Nat → Prop) (s a c0 c1 O : Nat) (xs : List (List Value)) (v : Value) (w : World) (st : St) (x : Array Value) : Prop where
  app : App tl e k w0 s a c0 c1 xs w v
  sx : Sx w F s a st
  o : w.heap[O]? = some (.cells x e (0, 0))
  ne : s ≠ O ∧ a ≠ O ∧ c0 ≠ O ∧ c1 ≠ O ∧ w0.heap.size ≤ O
  row : ∀ g, v.ownBlock = some g → g ≠ O
  nf : ∀ k, F k → k < w0.heap.size
section
variable {F : Nat → Prop} {O : Nat} {st st' : St} {x : Array Value}
theorem InO.mk_ (h : App tl e k w0 s a c0 c1 xs w v) (hs : Sx w F s a st) (hF : ∀ k, F k → k < w0.heap.size) (x : Array Value) : InO tl e k w0 F s a c0 c1 w.heap.size xs v (w.alloc (.cells x e)) st x := by
  have := h.old
  have := h.chg.size
  have := lt_of_block h.cap
  have := lt_of_block h.var
  exact ⟨h.alloc _, hs.same (Chg.alloc_ _ _ _), heap_alloc_new w _, by omega, fun g hg => by have := (World.ownsRow.lt h.own g hg).2; omega, hF⟩
theorem InO.call (h : InO tl e k w0 F s a c0 c1 O xs v w st x) (hp : SxPost w w' F s a st') : InO tl e k w0 F s a c0 c1 O xs v w' st' x := by
  have := h.ne
  exact ⟨h.app.call hp.2, hp.1, hp.2.at_ h.o (by omega), h.ne, h.row, h.nf⟩
theorem InO.drew (h : InO tl e k w0 F s a c0 c1 O xs v w st x) : InO tl e k w0 F s a c0 c1 O xs v w.drew st x := h.call ⟨h.sx.same (Chg.refl _ w).drew, (Chg.refl _ w).drew⟩
theorem InO.store (h : InO tl e k w0 F s a c0 c1 O xs v w st x) (i : Nat) (u : Value) : InO tl e k w0 F s a c0 c1 O xs v (w.setCell ⟨O, i, none⟩ u) st (x.setIfInBounds i u) := by
  have hn := h.ne
  have hc : Chg (fun k => k = O) w (w.setCell ⟨O, i, none⟩ u) := Chg.setCell (S := fun k => k = O) (Chg.refl _ w) (p := ⟨O, i, none⟩) (fun _ => rfl) _
  refine ⟨⟨hc.at_ h.app.cap (by omega), hc.at_ h.app.var (by omega), ownsRow_keep' h.app.own hc (fun g hg => h.row g hg), h.app.chg.far (p := ⟨O, i, none⟩) hn.2.2.2.2 u, h.app.row, h.app.old⟩, h.sx.keep hc (by omega) (fun k hk => by have := h.nf k hk; omega), ?_, h.ne, h.row, h.nf⟩
  simp [World.setCell, Array.getElem?_modify, h.o]
theorem InO.cell (h : InO tl e k w0 F s a c0 c1 O xs v w st x) (i : Nat) (u : Value) (hi : x[i]? = some u) : w.cell? ⟨O, i, none⟩ = some u ∧ w.frozen? ⟨O, i, none⟩ = false := by
  constructor
  · simp [World.cell?, h.o, hi]
  · simp [World.frozen?, h.o]
theorem InO.cells (h : InO tl e k w0 F s a c0 c1 O xs v w st x) : w.cell? ⟨c0, 0, none⟩ = some (.pointer (some ⟨s, 0, none⟩)) ∧ w.cell? ⟨c1, 0, none⟩ = some v ∧ w.frozen? ⟨c1, 0, none⟩ = false := h.app.cells
/-- The append, and the store of what it handed back. -/
theorem InO.more (h : InO tl e k w0 F s a c0 c1 O xs v w st x) (o : Obj) (y : List Value) (ho : w2.ownsRow 0 e k v' (xs.length + 1) (xs.flatten ++ y)) (hg : (w.alloc o).grownBy w2 v.ownBlock) (hat : v'.ownBlock = v.ownBlock ∨ v'.ownBlock = some (w.alloc o).heap.size) :
    App tl e k w0 s a c0 c1 (xs ++ [y]) (w2.setCell ⟨c1, 0, none⟩ v') v' ∧ Sx (w2.setCell ⟨c1, 0, none⟩ v') F s a st := by
  have ha := h.app.alloc o
  refine ⟨ha.more y ho hg hat, ?_⟩
  have hold := h.app.old
  have hc2 : Chg (fun k => v.ownBlock = some k) (w.alloc o) w2 := Chg.of_grown hg (fun k h => h)
  have hc3 : Chg (fun k => v.ownBlock = some k ∨ k = c1) (w.alloc o) (w2.setCell ⟨c1, 0, none⟩ v') := (hc2.mono (fun _ h => .inl h)).setCell (fun _ => .inr rfl) _
  have hlow : ∀ k, k < w0.heap.size → ¬ (v.ownBlock = some k ∨ k = c1) := fun k hk hh => by
    rcases hh with hh | hh
    · have := (h.app.row k hh).1; omega
    · omega
  exact (h.sx.same (Chg.alloc_ _ _ o)).keep hc3 (hlow s hold.1) (fun k hk => hlow k (h.nf k hk))
end
end
theorem four_new_cells (w : World) (x0 x1 x2 x3 : Value) (t : TypeId) : 0 < 1 → ∃ ad, some (⟨w.heap.size, 0, none⟩ : Addr) = some ad ∧ ∀ j u, [x0, x1, x2, x3][j]? = some u → (w.alloc (.cells #[x0, x1, x2, x3] t)).cell? (ad.add j) = some u := by
  refine fun _ => ⟨_, rfl, fun j u hj => ?_⟩
  rw [show (⟨w.heap.size, 0, none⟩ : Addr).add j = ⟨w.heap.size, j, none⟩ by rw [addr_add, Nat.zero_add], World.cell?_alloc_at _ _ _ _ rfl]
  match j, hj with
  | 0, hj => simpa using hj
  | 1, hj => simpa using hj
  | 2, hj => simpa using hj
  | 3, hj => simpa using hj
theorem nine_new_cells (w : World) (x0 x1 x2 x3 x4 x5 x6 x7 x8 : Value) (t : TypeId) : 0 < 1 → ∃ ad, some (⟨w.heap.size, 0, none⟩ : Addr) = some ad ∧ ∀ j u, [x0, x1, x2, x3, x4, x5, x6, x7, x8][j]? = some u → (w.alloc (.cells #[x0, x1, x2, x3, x4, x5, x6, x7, x8] t)).cell? (ad.add j) = some u := by
  refine fun _ => ⟨_, rfl, fun j u hj => ?_⟩
  rw [show (⟨w.heap.size, 0, none⟩ : Addr).add j = ⟨w.heap.size, j, none⟩ by rw [addr_add, Nat.zero_add], World.cell?_alloc_at _ _ _ _ rfl]
  match j, hj with
  | 0, hj => simpa using hj
  | 1, hj => simpa using hj
  | 2, hj => simpa using hj
  | 3, hj => simpa using hj
  | 4, hj => simpa using hj
  | 5, hj => simpa using hj
  | 6, hj => simpa using hj
  | 7, hj => simpa using hj
  | 8, hj => simpa using hj
theorem one_new_cell (w : World) (x0 : Value) (t : TypeId) : 0 < 1 → ∃ ad, some (⟨w.heap.size, 0, none⟩ : Addr) = some ad ∧ ∀ j u, [x0][j]? = some u → (w.alloc (.cells #[x0] t)).cell? (ad.add j) = some u := by
  refine fun _ => ⟨_, rfl, fun j u hj => ?_⟩
  rw [show (⟨w.heap.size, 0, none⟩ : Addr).add j = ⟨w.heap.size, j, none⟩ by rw [addr_add, Nat.zero_add], World.cell?_alloc_at _ _ _ _ rfl]
  match j, hj with
  | 0, hj => simpa using hj
end Go.Proofs.Ytdkankiohoocaaa
