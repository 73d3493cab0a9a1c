/- The walks of entry's scan: bad, num, whole, int, text. -/
import Derived.Test.YtdkankiohoocaaaQEnt
namespace Go.Proofs.Ytdkankiohoocaaa
set_option linter.unusedSimpArgs false
set_option linter.unusedVariables false
open Go Go.RowKit Go.Proofs

theorem rdNum_em : ∀ (l : List UInt8) (i acc : Nat), (rdNum i acc l).2.2 ≠ 0 → (rdNum i acc l).2.1 = [] ∧ (rdNum i acc l).1 = 0
  | [], i, acc, _ => ⟨rfl, rfl⟩
  | b :: r, i, acc, h => by
    unfold rdNum at h ⊢
    split
    · exact ⟨rfl, rfl⟩
    · rename_i h1
      rw [if_neg h1] at h
      split
      · rename_i h2; rw [if_pos h2] at h; exact absurd rfl h
      · rename_i h2; rw [if_neg h2] at h; exact rdNum_em r _ _ h
theorem readNum_em {l : List UInt8} {e : Int} (h : e ≠ 0 → l = []) (hr : (readNum l e).2.2 ≠ 0) : (readNum l e).2.1 = [] ∧ (readNum l e).1 = 0 := by
  unfold readNum at hr ⊢
  split
  · rename_i he; rw [if_pos he] at hr; exact rdNum_em _ _ _ hr
  · rename_i he; exact ⟨h he, rfl⟩
theorem readText_em {l : List UInt8} {e most : Int} (h : e ≠ 0 → l = []) (hr : (readText l e most).2.2 ≠ 0) : (readText l e most).2.1 = [] ∧ (readText l e most).1 = [] := by
  unfold readText rdText at hr ⊢
  split
  · rename_i he; exact ⟨(readNum_em h he).1, rfl⟩
  · rename_i he
    rw [if_neg he] at hr
    split
    · exact ⟨rfl, rfl⟩
    · rename_i h2; rw [if_neg h2] at hr
      split
      · exact ⟨rfl, rfl⟩
      · rename_i h3; rw [if_neg h3] at hr; exact absurd rfl hr
theorem stepNum_err (least most : Nat) (l : List UInt8) (e : Int) (he : e ≠ 0) : stepNum least most (l, e) = (0, l, e) := by
  unfold stepNum; simp only; rw [readNum_err _ _ he, if_neg (fun h => he h.1)]
theorem readInt_err (l : List UInt8) (e : Int) (he : e ≠ 0) : readInt l e = (0, l, e) := by unfold readInt; rw [readNum_err _ _ he]; simp [unzig]

/-- A scan in block s, whose reader lies in block a; se: its own error. -/
structure SxV (w : World) (F : Nat → Prop) (s a : Nat) (l : List UInt8) (e se : Int) : Prop where
  blk : w.heap[s]? = some (.cells #[.pointer (some ⟨a, 0, none⟩), .int .i64 se] 97 (0, 0))
  rd : Rd w F a l e
  ns : ¬ F s
  len : l.length ≤ 140737488355328
  em : e ≠ 0 → l = []
def Sx (w : World) (F : Nat → Prop) (s a : Nat) (st : St) : Prop := ∃ l e se, SxV w F s a l e se ∧ st = if se = 0 then (l, e) else ([], se)
def SxPost (w w' : World) (F : Nat → Prop) (s a : Nat) (st : St) : Prop := Sx w' F s a st ∧ Chg (fun k => k = s ∨ k = a) w w'

theorem SxV.keep {w w' : World} {F : Nat → Prop} {s a : Nat} {l : List UInt8} {e se : Int} (h : SxV w F s a l e se) {S : Nat → Prop} (hc : Chg S w w') (hs : ¬ S s) (hF : ∀ k, F k → ¬ S k) : SxV w' F s a l e se :=
  ⟨hc.at_ h.blk hs, h.rd.keep hc hF, h.ns, h.len, h.em⟩
theorem Sx.keep {w w' : World} {F : Nat → Prop} {s a : Nat} {st : St} (h : Sx w F s a st) {S : Nat → Prop} (hc : Chg S w w') (hs : ¬ S s) (hF : ∀ k, F k → ¬ S k) : Sx w' F s a st := by
  obtain ⟨l, e, se, hV, hst⟩ := h
  exact ⟨l, e, se, hV.keep hc hs hF, hst⟩
theorem Sx.same {w w' : World} {F : Nat → Prop} {s a : Nat} {st : St} (h : Sx w F s a st) (hc : Same w w') : Sx w' F s a st := h.keep hc (fun h => h) (fun _ _ h => h)
theorem SxV.read {w w' : World} {F : Nat → Prop} {s a : Nat} {l l1 : List UInt8} {e e1 se : Int} (h : SxV w F s a l e se) (hp : RdPost w w' F a l1 e1) (hl : l1.length ≤ l.length) (hm : e1 ≠ 0 → l1 = []) : SxV w' F s a l1 e1 se :=
  ⟨hp.2.at_ h.blk (fun e => h.ns (e ▸ h.rd.mine)), hp.1, h.ns, Nat.le_trans hl h.len, hm⟩
theorem SxV.err {w : World} {F : Nat → Prop} {s a : Nat} {l : List UInt8} {e se : Int} (h : SxV w F s a l e se) (x : Int) : SxV (w.setCell ⟨s, 1, none⟩ (.int .i64 x)) F s a l e x := by
  have hc : Chg (fun k => k = s) w (w.setCell ⟨s, 1, none⟩ (.int .i64 x)) := Chg.setCell (S := fun k => k = s) (Chg.refl _ w) (p := ⟨s, 1, none⟩) (fun _ => rfl) _
  exact ⟨two_set1 h.blk, h.rd.keep hc (fun k hk e => h.ns (e ▸ hk)), h.ns, h.len, h.em⟩
theorem chg_err (w : World) (s a : Nat) (v : Value) : Chg (fun k => k = s ∨ k = a) w (w.setCell ⟨s, 1, none⟩ v) := Chg.setCell (Chg.refl _ w) (p := ⟨s, 1, none⟩) (fun _ => .inl rfl) _
theorem Sx.clean {w : World} {F : Nat → Prop} {s a : Nat} {st : St} (h : Sx w F s a st) (h0 : st.2 = 0) : SxV w F s a st.1 0 0 := by
  obtain ⟨l, e, se, hV, rfl⟩ := h
  by_cases hse : se = 0
  · subst hse
    simp at h0
    subst h0
    exact hV
  · rw [if_neg hse] at h0
    exact absurd h0 hse
theorem SxV.sx {w : World} {F : Nat → Prop} {s a : Nat} {l : List UInt8} {e : Int} (h : SxV w F s a l e 0) : Sx w F s a (l, e) := ⟨l, e, 0, h, rfl⟩
theorem Sx.empty {w : World} {F : Nat → Prop} {s a : Nat} {st : St} (h : Sx w F s a st) (h0 : st.2 ≠ 0) : st.1 = [] := by
  obtain ⟨l, e, se, hV, rfl⟩ := h
  by_cases hse : se = 0
  · subst hse; simp at h0 ⊢; exact hV.em h0
  · rw [if_neg hse]

set_option maxHeartbeats 800000 in
theorem sbad_is (b : Bool) (s a : Nat) (F : Nat → Prop) (st : St) (w : World) (h : Sx w F s a st) (hb : Hid ((st.2 != 0) = b)) :
    Calls Try.prog 40 #[.pointer (some ⟨s, 0, none⟩)] w fun en w' => en = .returned (.bool b) ∧ SxPost w w' F s a st := by
  obtain ⟨l, e, se, hV, rfl⟩ := h
  obtain ⟨c0, c1, f0, f1⟩ := two_cells hV.blk
  by_cases hse : se = 0
  · subst hse
    have hV1 := Lib.hid (hV.err e)
    have HB : Hid ((e != 0) = b) := hb
    have hR := hV.rd
    have HX : Hid (∀ x, SxV x F s a l e e → Sx x F s a (l, e)) := fun x hx => ⟨l, e, e, hx, by by_cases he : e = 0 <;> simp [he]; exact hV.em he⟩
    clear hV hb
    go_enter Try.func40, Try.ntmps40
    go_wp2_with fail
    refine (rerr_any a F l e _ hR).mono ?_
    rintro _ _ ⟨rfl, rfl⟩
    go_wp2_with fail
    go_ret
    exact ⟨by rw [HB.out]; rfl, HX.out _ hV1.out, chg_err _ _ _ _⟩
  · have hse0 : (se == 0) = false := by simp [hse]
    have hse1 : (se != 0) = true := by simp [hse]
    have HB : Hid (true = b) := by have := hb.out; rw [if_neg hse] at this; exact hse1.symm.trans this
    have HX : Hid (Sx w F s a ([], se)) := ⟨l, e, se, hV, by rw [if_neg hse]⟩
    rw [if_neg hse]
    clear hb hse hV
    go_enter Try.func40, Try.ntmps40
    go_wp2_with fail
    go_ret
    exact ⟨by rw [← HB.out]; rfl, HX.out, Chg.refl _ _⟩

theorem hb_true {st : St} (h : st.2 ≠ 0) : Hid ((st.2 != 0) = true) := by show _ = _; simp [h]
theorem hb_false {st : St} (h : st.2 = 0) : Hid ((st.2 != 0) = false) := by show _ = _; simp [h]

set_option maxHeartbeats 1600000 in
theorem xnum_is (most s a : Nat) (F : Nat → Prop) (st : St) (w : World) (h : Sx w F s a st) (hm : most ≤ 9223372036854775807) (q : Nat × St) (hq : Hid (stepNum 0 most st = q)) :
    Calls Try.prog 75 #[.pointer (some ⟨s, 0, none⟩), .int .u64 most] w fun en w' => en = .returned (.int .i64 (q.1 : Int)) ∧ SxPost w w' F s a q.2 := by
  by_cases h0 : st.2 = 0
  · have HB := hb_false h0
    have H0 := Lib.hid h0
    have hle := readNum_le st.1 0
    have hll := readNum_len st.1 0
    have hem := readNum_em (l := st.1) (e := 0) (fun h => absurd rfl h)
    obtain ⟨n, l1, e1, HQ⟩ : ∃ n l1 e1, Hid (readNum st.1 0 = (n, l1, e1)) := ⟨_, _, _, rfl⟩
    rw [HQ.out] at hle hll hem
    simp only at hle hll hem
    have HS : Hid (stepNum 0 most st = if e1 = 0 ∧ most < n then (0, [], 2) else (n, l1, e1)) := by
      show _ = _; unfold stepNum; rw [H0.out, HQ.out]; simp
    clear h0
    by_cases he : e1 = 0
    · subst he
      by_cases h2 : most < n
      · have h2' : (most : Int) < (n : Int) := by omega
        have HD : Hid (q = (0, [], 2)) := by show _ = _; rw [← hq.out, HS.out, if_pos ⟨rfl, h2⟩]
        clear h2
        go_enter Try.func75, Try.ntmps75
        go_wp2_with fail
        refine (sbad_is false s a F st w h HB).mono ?_
        rintro _ w1 ⟨rfl, hS1, hC1⟩
        have hV1 := hS1.clean H0.out
        obtain ⟨c0, c1, f0, f1⟩ := two_cells hV1.blk
        go_wp2_with fail
        refine (rnum_is a F _ 0 _ hV1.rd n l1 0 HQ.out).mono ?_
        rintro _ w2 ⟨rfl, hP2⟩
        have hV2 := hV1.read hP2 hll (fun h => absurd rfl h)
        clear c0 c1 f0 f1
        go_wp2_with fail
        refine (sbad_is false s a F (l1, 0) _ hV2.sx rfl).mono ?_
        rintro _ w3 ⟨rfl, hS3, hC3⟩
        have hV3 := hS3.clean rfl
        obtain ⟨c0, c1, f0, f1⟩ := two_cells hV3.blk
        have hV4 := Lib.hid (hV3.err 2)
        go_wp2_with fail
        refine (sbad_is true s a F ([], 2) _ ⟨_, _, 2, hV4.out, rfl⟩ rfl).mono ?_
        rintro _ w5 ⟨rfl, hS5, hC5⟩
        go_wp2_with fail
        go_ret
        rw [HD.out]
        exact ⟨rfl, hS5, (((hC1.trans (hP2.2.mono (fun _ h => .inr h))).trans hC3).trans (chg_err _ _ _ _)).trans hC5⟩
      · have h2' : (n : Int) ≤ (most : Int) := by omega
        have HD : Hid (q = (n, l1, 0)) := by show _ = _; rw [← hq.out, HS.out, if_neg (fun h => h2 h.2)]
        have hnn : n ≤ 9223372036854775807 := by omega
        clear h2
        go_enter Try.func75, Try.ntmps75
        go_wp2_with fail
        refine (sbad_is false s a F st w h HB).mono ?_
        rintro _ w1 ⟨rfl, hS1, hC1⟩
        have hV1 := hS1.clean H0.out
        obtain ⟨c0, c1, f0, f1⟩ := two_cells hV1.blk
        go_wp2_with fail
        refine (rnum_is a F _ 0 _ hV1.rd n l1 0 HQ.out).mono ?_
        rintro _ w2 ⟨rfl, hP2⟩
        have hV2 := hV1.read hP2 hll (fun h => absurd rfl h)
        clear c0 c1 f0 f1
        go_wp2_with fail
        refine (sbad_is false s a F (l1, 0) _ hV2.sx rfl).mono ?_
        rintro _ w3 ⟨rfl, hS3, hC3⟩
        go_wp2_with fail
        refine (sbad_is false s a F (l1, 0) _ hS3 rfl).mono ?_
        rintro _ w5 ⟨rfl, hS5, hC5⟩
        go_wp2_with fail
        go_ret
        rw [HD.out]
        refine ⟨ret_int (by first | rfl | (unfold wrap64; omega) | omega), hS5, ((hC1.trans (hP2.2.mono (fun _ h => .inr h))).trans hC3).trans hC5⟩
    · have HD : Hid (q = (n, l1, e1)) := by show _ = _; rw [← hq.out, HS.out, if_neg (fun h => he h.1)]
      have hz := hem he
      have HB1 : Hid (((l1, e1).2 != 0) = true) := hb_true he
      have HE := Lib.hid he
      clear he
      go_enter Try.func75, Try.ntmps75
      go_wp2_with fail
      refine (sbad_is false s a F st w h HB).mono ?_
      rintro _ w1 ⟨rfl, hS1, hC1⟩
      have hV1 := hS1.clean H0.out
      obtain ⟨c0, c1, f0, f1⟩ := two_cells hV1.blk
      go_wp2_with fail
      refine (rnum_is a F _ 0 _ hV1.rd n l1 e1 HQ.out).mono ?_
      rintro _ w2 ⟨rfl, hP2⟩
      have hV2 := hV1.read hP2 hll (fun h => hz.1)
      clear c0 c1 f0 f1
      go_wp2_with fail
      refine (sbad_is true s a F (l1, e1) _ hV2.sx HB1).mono ?_
      rintro _ w3 ⟨rfl, hS3, hC3⟩
      go_wp2_with fail
      refine (sbad_is true s a F (l1, e1) _ hS3 HB1).mono ?_
      rintro _ w5 ⟨rfl, hS5, hC5⟩
      go_wp2_with fail
      go_ret
      rw [HD.out]
      exact ⟨ret_int (by rw [hz.2]; rfl), hS5, ((hC1.trans (hP2.2.mono (fun _ h => .inr h))).trans hC3).trans hC5⟩
  · have HB := hb_true h0
    have HD : Hid (q = (0, st)) := by show _ = _; rw [← hq.out]; exact stepNum_err 0 most st.1 st.2 h0
    clear h0
    go_enter Try.func75, Try.ntmps75
    go_wp2_with fail
    refine (sbad_is true s a F st w h HB).mono ?_
    rintro _ w1 ⟨rfl, hP⟩
    go_wp2_with fail
    go_ret
    rw [HD.out]
    exact ⟨rfl, hP⟩

set_option maxHeartbeats 800000 in
theorem xwhole_is (s a : Nat) (F : Nat → Prop) (st : St) (w : World) (h : Sx w F s a st) (q : Nat × St) (hq : Hid (wholeN st = q)) :
    Calls Try.prog 64 #[.pointer (some ⟨s, 0, none⟩)] w fun en w' => en = .returned (.int .i64 (q.1 : Int)) ∧ SxPost w w' F s a q.2 := by
  go_enter Try.func64, Try.ntmps64
  go_wp2_with fail
  refine (xnum_is 9223372036854775807 s a F st w h (Nat.le_refl _) q hq).mono ?_
  rintro _ w1 ⟨rfl, hP⟩
  go_wp2_with fail
  go_ret
  exact ⟨rfl, hP⟩

set_option maxHeartbeats 800000 in
theorem xint_is (s a : Nat) (F : Nat → Prop) (st : St) (w : World) (h : Sx w F s a st) (q : Int × St) (hq : Hid (readInt st.1 st.2 = q)) :
    Calls Try.prog 63 #[.pointer (some ⟨s, 0, none⟩)] w fun en w' => en = .returned (.int .i64 q.1) ∧ SxPost w w' F s a q.2 := by
  by_cases h0 : st.2 = 0
  · have HB := hb_false h0
    have H0 := Lib.hid h0
    have hll := readInt_len st.1 0
    have hem : (readInt st.1 0).2.2 ≠ 0 → (readInt st.1 0).2.1 = [] := fun h => (readNum_em (l := st.1) (e := 0) (fun h => absurd rfl h) h).1
    have HQ : Hid (readInt st.1 0 = (q.1, q.2.1, q.2.2)) := by show _ = _; have := hq.out; rw [h0] at this; rw [this]
    rw [HQ.out] at hll hem
    clear h0
    go_enter Try.func63, Try.ntmps63
    go_wp2_with fail
    refine (sbad_is false s a F st w h HB).mono ?_
    rintro _ w1 ⟨rfl, hS1, hC1⟩
    have hV1 := hS1.clean H0.out
    obtain ⟨c0, c1, f0, f1⟩ := two_cells hV1.blk
    go_wp2_with fail
    refine (rint_is a F _ 0 _ hV1.rd q.1 q.2.1 q.2.2 HQ.out).mono ?_
    rintro _ w2 ⟨rfl, hP2⟩
    have hV2 := hV1.read hP2 hll hem
    go_wp2_with fail
    go_ret
    exact ⟨rfl, hV2.sx, hC1.trans (hP2.2.mono (fun _ h => .inr h))⟩
  · have HB := hb_true h0
    have HD : Hid (q = (0, st)) := by show _ = _; rw [← hq.out]; exact readInt_err st.1 st.2 h0
    clear h0
    go_enter Try.func63, Try.ntmps63
    go_wp2_with fail
    refine (sbad_is true s a F st w h HB).mono ?_
    rintro _ w1 ⟨rfl, hP⟩
    go_wp2_with fail
    go_ret
    rw [HD.out]
    exact ⟨rfl, hP⟩

set_option maxHeartbeats 800000 in
theorem xtext_is (most : Int) (s a : Nat) (F : Nat → Prop) (st : St) (w : World) (h : Sx w F s a st) (hm0 : 0 ≤ most) (hm1 : most ≤ 1000) (q : List UInt8 × St) (hq : Hid (readText st.1 st.2 most = q)) :
    Calls Try.prog 67 #[.pointer (some ⟨s, 0, none⟩), .int .i64 most] w fun en w' => en = .returned (.string ⟨q.1.toArray⟩) ∧ SxPost w w' F s a q.2 := by
  by_cases h0 : st.2 = 0
  · have HB := hb_false h0
    have H0 := Lib.hid h0
    have hll := readText_len st.1 0 most
    have hem : (readText st.1 0 most).2.2 ≠ 0 → (readText st.1 0 most).2.1 = [] := fun h => (readText_em (l := st.1) (e := 0) (fun h => absurd rfl h) h).1
    have HQ : Hid (readText st.1 0 most = (q.1, q.2.1, q.2.2)) := by show _ = _; have := hq.out; rw [h0] at this; rw [this]
    rw [HQ.out] at hll hem
    clear h0
    go_enter Try.func67, Try.ntmps67
    go_wp2_with fail
    refine (sbad_is false s a F st w h HB).mono ?_
    rintro _ w1 ⟨rfl, hS1, hC1⟩
    have hV1 := hS1.clean H0.out
    obtain ⟨c0, c1, f0, f1⟩ := two_cells hV1.blk
    go_wp2_with fail
    refine (rtext_any' a F st.1 0 most _ hV1.rd hV1.len (by omega) (by omega)).mono ?_
    rintro _ w2 ⟨rfl, hP2⟩
    rw [HQ.out] at hP2
    have hV2 := hV1.read hP2 hll hem
    rw [HQ.out]
    go_wp2_with fail
    go_ret
    exact ⟨rfl, hV2.sx, hC1.trans (hP2.2.mono (fun _ h => .inr h))⟩
  · have HB := hb_true h0
    have HD : Hid (q = ([], st)) := by show _ = _; rw [← hq.out]; exact readText_err st.1 st.2 most h0
    clear h0
    go_enter Try.func67, Try.ntmps67
    go_wp2_with fail
    refine (sbad_is true s a F st w h HB).mono ?_
    rintro _ w1 ⟨rfl, hP⟩
    go_wp2_with fail
    go_ret
    rw [HD.out]
    exact ⟨rfl, hP⟩
end Go.Proofs.Ytdkankiohoocaaa
