/- The walks of event's scan, and of the document's num. -/
import Derived.Test.YtpommgohciigoaaEv
namespace Go.Proofs.Ytpommgohciigoaa
open Go Go.RowKit Go.Proofs

theorem readInt_len (l : List UInt8) (e : Int) : (readInt l e).2.1.length ≤ l.length := readNum_len l e
theorem readText_len (l : List UInt8) (e most : Int) : (readText l e most).2.1.length ≤ l.length := by
  have h := readNum_len l e
  unfold readText rdText
  split
  · exact h
  · split
    · simp
    · split
      · simp
      · simp; omega

/-- A number between two; what is left, the error. -/
def stepNum (least most : Nat) (st : List UInt8 × Int) : Nat × (List UInt8 × Int) :=
  if (readNum st.1 st.2).2.2 = 0 ∧ ((readNum st.1 st.2).1 < least ∨ most < (readNum st.1 st.2).1) then (0, [], 2) else readNum st.1 st.2

/-- A scan in block s, whose reader lies in block a; wr: was a number wrong? -/
structure ScV (w : World) (F : Nat → Prop) (s a : Nat) (l : List UInt8) (e : Int) (wr : Bool) : Prop where
  blk : w.heap[s]? = some (.cells #[.pointer (some ⟨a, 0, none⟩), .bool wr] 57 (0, 0))
  rd : Rd w F a l e
  ns : ¬ F s
  len : l.length ≤ 140737488355328
def Sc (w : World) (F : Nat → Prop) (s a : Nat) (st : List UInt8 × Int) : Prop := ∃ l e wr, ScV w F s a l e wr ∧ st = if wr = true then ([], 2) else (l, e)
def ScPost (w w' : World) (F : Nat → Prop) (s a : Nat) (st : List UInt8 × Int) : Prop := Sc w' F s a st ∧ Chg (fun k => k = s ∨ k = a) w w'

theorem ScV.keep {w w' : World} {F : Nat → Prop} {s a : Nat} {l : List UInt8} {e : Int} {wr : Bool} (h : ScV w F s a l e wr) {S : Nat → Prop} (hc : Chg S w w') (hs : ¬ S s) (hF : ∀ k, F k → ¬ S k) : ScV w' F s a l e wr :=
  ⟨hc.at_ h.blk hs, h.rd.keep hc hF, h.ns, h.len⟩
theorem ScV.read {w w' : World} {F : Nat → Prop} {s a : Nat} {l l1 : List UInt8} {e e1 : Int} {wr : Bool} (h : ScV w F s a l e wr) (hp : RdPost w w' F a l1 e1) (hl : l1.length ≤ l.length) : ScV w' F s a l1 e1 wr :=
  ⟨hp.2.at_ h.blk (fun e => h.ns (e ▸ h.rd.mine)), hp.1, h.ns, Nat.le_trans hl h.len⟩
theorem ScV.wrong {w : World} {F : Nat → Prop} {s a : Nat} {l : List UInt8} {e : Int} {wr : Bool} (h : ScV w F s a l e wr) : ScV (w.setCell ⟨s, 1, none⟩ (.bool true)) F s a l e true := by
  have hc : Chg (fun k => k = s) w (w.setCell ⟨s, 1, none⟩ (.bool true)) := Chg.setCell (S := fun k => k = s) (Chg.refl _ w) (p := ⟨s, 1, none⟩) (fun _ => rfl) _
  exact ⟨two_set1 h.blk, h.rd.keep hc (fun k hk e => h.ns (e ▸ hk)), h.ns, h.len⟩

theorem readNum_err (l : List UInt8) (e : Int) (he : e ≠ 0) : readNum l e = (0, l, e) := by unfold readNum; rw [if_neg he]
theorem stepNum_wrong (least most : Nat) : stepNum least most ([], 2) = (0, [], 2) := by
  unfold stepNum; rw [readNum_err _ _ (by decide)]; simp

/-- What num answers. -/
def NumPost (least most : Nat) (st : List UInt8 × Int) (w : World) (F : Nat → Prop) (s a : Nat) (en : Ending) (w' : World) : Prop :=
  ∃ n : Nat, en = .returned (.int .u64 n) ∧ n < 18446744073709551616 ∧ ((stepNum least most st).2.2 = 0 → n = (stepNum least most st).1) ∧ ScPost w w' F s a (stepNum least most st).2

set_option maxHeartbeats 1600000 in
theorem snum_any (least most s a : Nat) (F : Nat → Prop) (st : List UInt8 × Int) (w : World) (h : Sc w F s a st) :
    Calls Try.prog 28 #[.pointer (some ⟨s, 0, none⟩), .int .u64 least, .int .u64 most] w (NumPost least most st w F s a) := by
  obtain ⟨l, e, wr, hV, rfl⟩ := h
  obtain ⟨c0, c1, f0, f1⟩ := two_cells hV.blk
  cases wr
  · have hle := readNum_le l e
    have hll := readNum_len l e
    obtain ⟨n, l1, e1, HQ⟩ : ∃ n l1 e1, Hid (readNum l e = (n, l1, e1)) := ⟨_, _, _, rfl⟩
    rw [HQ.out] at hle hll
    simp only at hle hll
    by_cases he : e1 = 0
    · have he0 : (e1 == 0) = true := by simp [he]
      by_cases h1 : n < least
      · have h1' : (n : Int) < (least : Int) := by omega
        have HD : Hid (stepNum least most (l, e) = (0, [], 2)) := by show _ = _; unfold stepNum; simp only; rw [HQ.out, if_pos ⟨he, .inl h1⟩]
        clear he h1
        go_enter Try.func28, Try.ntmps28
        go_wp2_with fail
        refine (rnum_is a F l e _ hV.rd n l1 e1 HQ.out).mono ?_
        rintro _ w1 ⟨rfl, hP⟩
        have hV1 := hV.read hP hll
        obtain ⟨c0', c1', f0', f1'⟩ := two_cells hV1.blk
        go_wp2_with fail
        refine (rerr_any a F l1 e1 _ hV1.rd).mono ?_
        rintro _ _ ⟨rfl, rfl⟩
        go_wp2_with fail
        go_ret
        refine ⟨n, rfl, hle, ?_, ?_⟩
        · (try simp only [Bool.false_eq_true, if_false]); rw [HD.out]; intro h; cases h
        · (try simp only [Bool.false_eq_true, if_false]); rw [HD.out]
          exact ⟨⟨l1, e1, true, hV1.wrong, rfl⟩, (hP.2.mono (fun _ h => .inr h)).setCell (p := ⟨s, 1, none⟩) (fun _ => .inl rfl) _⟩
      · have h1' : (least : Int) ≤ (n : Int) := by omega
        by_cases h2 : most < n
        · have h2' : (most : Int) < (n : Int) := by omega
          have HD : Hid (stepNum least most (l, e) = (0, [], 2)) := by show _ = _; unfold stepNum; simp only; rw [HQ.out, if_pos ⟨he, .inr h2⟩]
          clear he h1 h2
          go_enter Try.func28, Try.ntmps28
          go_wp2_with fail
          refine (rnum_is a F l e _ hV.rd n l1 e1 HQ.out).mono ?_
          rintro _ w1 ⟨rfl, hP⟩
          have hV1 := hV.read hP hll
          obtain ⟨c0', c1', f0', f1'⟩ := two_cells hV1.blk
          go_wp2_with fail
          refine (rerr_any a F l1 e1 _ hV1.rd).mono ?_
          rintro _ _ ⟨rfl, rfl⟩
          go_wp2_with fail
          go_ret
          refine ⟨n, rfl, hle, ?_, ?_⟩
          · (try simp only [Bool.false_eq_true, if_false]); rw [HD.out]; intro h; cases h
          · (try simp only [Bool.false_eq_true, if_false]); rw [HD.out]
            exact ⟨⟨l1, e1, true, hV1.wrong, rfl⟩, (hP.2.mono (fun _ h => .inr h)).setCell (p := ⟨s, 1, none⟩) (fun _ => .inl rfl) _⟩
        · have h2' : (n : Int) ≤ (most : Int) := by omega
          have HD : Hid (stepNum least most (l, e) = (n, l1, e1)) := by show _ = _; unfold stepNum; simp only; rw [HQ.out, if_neg (fun h => by rcases h.2 with h | h <;> omega)]
          clear he h1 h2
          go_enter Try.func28, Try.ntmps28
          go_wp2_with fail
          refine (rnum_is a F l e _ hV.rd n l1 e1 HQ.out).mono ?_
          rintro _ w1 ⟨rfl, hP⟩
          have hV1 := hV.read hP hll
          obtain ⟨c0', c1', f0', f1'⟩ := two_cells hV1.blk
          go_wp2_with fail
          refine (rerr_any a F l1 e1 _ hV1.rd).mono ?_
          rintro _ _ ⟨rfl, rfl⟩
          go_wp2_with fail
          go_ret
          refine ⟨n, rfl, hle, ?_, ?_⟩
          · (try simp only [Bool.false_eq_true, if_false]); rw [HD.out]; intro _; rfl
          · (try simp only [Bool.false_eq_true, if_false]); rw [HD.out]
            exact ⟨⟨l1, e1, false, hV1, rfl⟩, hP.2.mono (fun _ h => .inr h)⟩
    · have he0 : (e1 == 0) = false := by simp [he]
      have HD : Hid (stepNum least most (l, e) = (n, l1, e1)) := by show _ = _; unfold stepNum; simp only; rw [HQ.out, if_neg (fun h => he h.1)]
      clear he
      go_enter Try.func28, Try.ntmps28
      go_wp2_with fail
      refine (rnum_is a F l e _ hV.rd n l1 e1 HQ.out).mono ?_
      rintro _ w1 ⟨rfl, hP⟩
      have hV1 := hV.read hP hll
      obtain ⟨c0', c1', f0', f1'⟩ := two_cells hV1.blk
      go_wp2_with fail
      refine (rerr_any a F l1 e1 _ hV1.rd).mono ?_
      rintro _ _ ⟨rfl, rfl⟩
      go_wp2_with fail
      go_ret
      refine ⟨n, rfl, hle, ?_, ?_⟩
      · (try simp only [Bool.false_eq_true, if_false]); rw [HD.out]; intro _; rfl
      · (try simp only [Bool.false_eq_true, if_false]); rw [HD.out]
        exact ⟨⟨l1, e1, false, hV1, rfl⟩, hP.2.mono (fun _ h => .inr h)⟩
  · go_enter Try.func28, Try.ntmps28
    go_wp2_with fail
    go_ret
    refine ⟨0, rfl, by omega, ?_, ?_⟩
    · (try simp only [if_true]); rw [stepNum_wrong]; intro _; rfl
    · (try simp only [if_true]); rw [stepNum_wrong]; exact ⟨⟨l, e, true, hV, rfl⟩, Chg.refl _ _⟩

set_option maxHeartbeats 800000 in
theorem stext_any (s a : Nat) (F : Nat → Prop) (st : List UInt8 × Int) (w : World) (h : Sc w F s a st) :
    Calls Try.prog 29 #[.pointer (some ⟨s, 0, none⟩)] w fun en w' => en = .returned (.string ⟨(readText st.1 st.2 40).1.toArray⟩) ∧ ScPost w w' F s a (readText st.1 st.2 40).2 := by
  obtain ⟨l, e, wr, hV, rfl⟩ := h
  obtain ⟨c0, c1, f0, f1⟩ := two_cells hV.blk
  cases wr
  · have hll := readText_len l e 40
    go_enter Try.func29, Try.ntmps29
    go_wp2_with fail
    refine (rtext_any' a F l e 40 _ hV.rd hV.len (by omega) (by omega)).mono ?_
    rintro _ w1 ⟨rfl, hP⟩
    go_wp2_with fail
    go_ret
    exact ⟨rfl, ⟨_, _, false, hV.read hP hll, rfl⟩, hP.2.mono (fun _ h => .inr h)⟩
  · go_enter Try.func29, Try.ntmps29
    go_wp2_with fail
    go_ret
    have e1 : readText [] 2 40 = ([], [], 2) := by unfold readText; rw [readNum_err _ _ (by decide)]; rfl
    simp only []
    rw [e1]
    exact ⟨rfl, ⟨l, e, true, hV, rfl⟩, Chg.refl _ _⟩
end Go.Proofs.Ytpommgohciigoaa
