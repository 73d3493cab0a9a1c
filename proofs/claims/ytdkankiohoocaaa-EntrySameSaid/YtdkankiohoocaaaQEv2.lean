/- The walks of carrierref09's num and Decode. -/
import Derived.Test.YtdkankiohoocaaaQEvD
namespace Go.Proofs.Ytdkankiohoocaaa
set_option linter.unusedSimpArgs false
set_option linter.unusedVariables false
open Go Go.RowKit Go.Proofs

theorem pnum_is' (A : Option Addr) (c : Nat) (F : Nat → Prop) (l : List UInt8) (e : Int) (w : World) (h : Bs w F (.slice A l.length c) l) (n : Nat) (l1 : List UInt8) (e1 : Int) (hq : readNum l e = (n, l1, e1)) :
    Calls Try.prog 73 #[rdr (.slice A l.length c) e] w fun en w' => ∃ A1 c1, en = .returned (.tuple #[.int .u64 n, rdr (.slice A1 l1.length c1) e1]) ∧ Bs w' F (.slice A1 l1.length c1) l1 ∧ Same w w' :=
  (pnum_is _ F l e w h n l1 e1 hq).mono fun en w' ⟨v', h1, h2, h3⟩ => by
    obtain ⟨A1, c1, hv, -, -, -⟩ := id h2
    subst hv
    exact ⟨A1, c1, h1, h2, h3⟩

/-- What num answers. -/
def PNum (w : World) (F : Nat → Prop) (q : Nat × (List UInt8 × Int)) (en : Ending) (w' : World) : Prop :=
  ∃ A1 c1, en = .returned (.tuple #[.int .u64 q.1, rdr (.slice A1 q.2.1.length c1) q.2.2]) ∧ Bs w' F (.slice A1 q.2.1.length c1) q.2.1 ∧ Same w w'

set_option maxHeartbeats 1600000 in
theorem pstep_any (least most : Nat) (A : Option Addr) (c : Nat) (F : Nat → Prop) (l : List UInt8) (e : Int) (w : World) (h : Bs w F (.slice A l.length c) l) (q : Nat × (List UInt8 × Int)) (hq : Hid (stepNum least most (l, e) = q)) :
    Calls Try.prog 80 #[rdr (.slice A l.length c) e, .int .u64 least, .int .u64 most] w (PNum w F q) := by
  have hle := readNum_le l e
  obtain ⟨n, l1, e1, HQ⟩ : ∃ n l1 e1, Hid (readNum l e = (n, l1, e1)) := ⟨_, _, _, rfl⟩
  rw [HQ.out] at hle
  simp only at hle
  have HD : Hid (q = if e1 = 0 ∧ (n < least ∨ most < n) then (0, [], 2) else (n, l1, e1)) := by
    show _ = _
    rw [← hq.out]; unfold stepNum; simp only; rw [HQ.out]
  clear hq
  have hbo := Lib.hid ((h.old.alloc (.cells #[.slice A l.length c, .int .i64 e] 107)).alloc (.cells #[.slice none 0 0, .int .i64 0] 107))
  by_cases he : e1 = 0
  · subst he
    by_cases h1 : n < least
    · have h1' : (n : Int) < (least : Int) := by omega
      have HF : Hid (q = (0, [], 2)) := by show _ = _; rw [HD.out, if_pos ⟨rfl, .inl h1⟩]
      clear h1 HD
      go_enter Try.func80, Try.ntmps80
      go_wp2_with fail
      refine (pnum_is' _ _ _ l e _ hbo.out n l1 0 HQ.out).mono ?_
      rintro _ w1 ⟨A1, c1, rfl, hb1, hs1⟩
      obtain ⟨-, n2, n3, hsame⟩ := two_new hs1
      obtain ⟨c0, c1', f0, f1⟩ := two_cells n2
      clear n2 hs1
      go_wp2_with fail
      refine bodyPost_ret (v := .tuple #[.int .u64 0, rdr (.slice none 0 0) 2]) (by simp [results, Try.results80, go_sem, rdr, c0, c1', n3]) rfl ?_
      rw [HF.out]
      exact ⟨none, 0, rfl, Bs.nil_ _ _, ((hsame.far (by simp) _).far (by simp) _).alloc _⟩
    · have h1' : (least : Int) ≤ (n : Int) := by omega
      by_cases h2 : most < n
      · have h2' : (most : Int) < (n : Int) := by omega
        have HF : Hid (q = (0, [], 2)) := by show _ = _; rw [HD.out, if_pos ⟨rfl, .inr h2⟩]
        clear h1 h2 HD
        go_enter Try.func80, Try.ntmps80
        go_wp2_with fail
        refine (pnum_is' _ _ _ l e _ hbo.out n l1 0 HQ.out).mono ?_
        rintro _ w1 ⟨A1, c1, rfl, hb1, hs1⟩
        obtain ⟨-, n2, n3, hsame⟩ := two_new hs1
        obtain ⟨c0, c1', f0, f1⟩ := two_cells n2
        clear n2 hs1
        go_wp2_with fail
        refine bodyPost_ret (v := .tuple #[.int .u64 0, rdr (.slice none 0 0) 2]) (by simp [results, Try.results80, go_sem, rdr, c0, c1', n3]) rfl ?_
        rw [HF.out]
        exact ⟨none, 0, rfl, Bs.nil_ _ _, ((hsame.far (by simp) _).far (by simp) _).alloc _⟩
      · have h2' : (n : Int) ≤ (most : Int) := by omega
        have HF : Hid (q = (n, l1, 0)) := by show _ = _; rw [HD.out, if_neg (fun h => by rcases h.2 with h | h <;> omega)]
        clear h1 h2 HD
        go_enter Try.func80, Try.ntmps80
        go_wp2_with fail
        refine (pnum_is' _ _ _ l e _ hbo.out n l1 0 HQ.out).mono ?_
        rintro _ w1 ⟨A1, c1, rfl, hb1, hs1⟩
        obtain ⟨-, n2, n3, hsame⟩ := two_new hs1
        obtain ⟨c0, c1', f0, f1⟩ := two_cells n2
        clear n2 hs1
        go_wp2_with fail
        go_region
        all_goals
          go_wp2_with fail
          refine bodyPost_ret (v := .tuple #[.int .u64 n, rdr (.slice A1 l1.length c1) 0]) (by simp [results, Try.results80, go_sem, rdr, c0, c1', n3]) rfl ?_
          rw [HF.out]
          exact ⟨A1, c1, rfl, Bs.all (Bs.drewN (Bs.alloc ((hb1.far (by simp) _).far (by simp) _) _) 1), (((hsame.far (by simp) _).far (by simp) _).alloc _).drew⟩
  · have he0 : (e1 == 0) = false := by simp [he]
    have HF : Hid (q = (n, l1, e1)) := by show _ = _; rw [HD.out, if_neg (fun h => he h.1)]
    clear he HD
    go_enter Try.func80, Try.ntmps80
    go_wp2_with fail
    refine (pnum_is' _ _ _ l e _ hbo.out n l1 e1 HQ.out).mono ?_
    rintro _ w1 ⟨A1, c1, rfl, hb1, hs1⟩
    obtain ⟨-, n2, n3, hsame⟩ := two_new hs1
    obtain ⟨c0, c1', f0, f1⟩ := two_cells n2
    clear n2 hs1
    go_wp2_with fail
    go_region
    all_goals
      go_wp2_with fail
      refine bodyPost_ret (v := .tuple #[.int .u64 n, rdr (.slice A1 l1.length c1) e1]) (by simp [results, Try.results80, go_sem, rdr, c0, c1', n3]) rfl ?_
      rw [HF.out]
      exact ⟨A1, c1, rfl, Bs.all (Bs.drewN (Bs.alloc ((hb1.far (by simp) _).far (by simp) _) _) 1), (((hsame.far (by simp) _).far (by simp) _).alloc _).drew⟩
end Go.Proofs.Ytdkankiohoocaaa
/- The walk of carrierref09.Decode. -/
namespace Go.Proofs.Ytdkankiohoocaaa
set_option linter.unusedSimpArgs false
set_option linter.unusedVariables false
open Go Go.RowKit Go.Proofs

/-- In the midst of the document's Decode: the reader in block b, the event in block E, the result in block R. -/
structure PMid (w0 w : World) (b E R : Nat) (A : Option Addr) (c : Nat) (st : List UInt8 × Int) (x : Array Value) : Prop where
  rd : w.heap[b]? = some (.cells #[.slice A st.1.length c, .int .i64 st.2] 107 (0, 0))
  bs : Bs w (fun k => k < w0.heap.size) (.slice A st.1.length c) st.1
  ev : w.heap[E]? = some (.cells x 49 (0, 0))
  res : w.heap[R]? = some (.cells #[.int .i64 0, .int .i64 0, .string ⟨#[]⟩, .int .i64 0, .int .i64 0, .int .u8 0, .int .i64 0, .string ⟨#[]⟩] 49 (0, 0))
  same : Same w0 w
  old : w0.heap.size ≤ b ∧ w0.heap.size ≤ E ∧ w0.heap.size ≤ R
  dj : b ≠ E ∧ b ≠ R ∧ R ≠ E
  len : st.1.length ≤ 140737488355328

section
variable {w0 w w' : World} {b E R : Nat} {A A1 : Option Addr} {c c1 : Nat} {st st' : List UInt8 × Int} {x : Array Value}
theorem PMid.keep (h : PMid w0 w b E R A c st x) (hs : Same w w') : PMid w0 w' b E R A c st x :=
  ⟨hs.at_ h.rd (fun h => h), h.bs.same hs, hs.at_ h.ev (fun h => h), hs.at_ h.res (fun h => h), h.same.trans hs, h.old, h.dj, h.len⟩
theorem PMid.store (h : PMid w0 w b E R A c st x) (i : Nat) (v : Value) : PMid w0 (w.setCell ⟨E, i, none⟩ v) b E R A c st (x.setIfInBounds i v) := by
  have hc : Chg (fun k => k = E) w (w.setCell ⟨E, i, none⟩ v) := Chg.setCell (S := fun k => k = E) (Chg.refl _ w) (p := ⟨E, i, none⟩) (fun _ => rfl) _
  refine ⟨hc.at_ h.rd h.dj.1, h.bs.keep hc (fun k hk e => by have := h.old; omega), ?_, hc.at_ h.res h.dj.2.2, h.same.since hc (fun k hk => by have := h.old; omega), h.old, h.dj, h.len⟩
  simp [World.setCell, Array.getElem?_modify, h.ev]
theorem PMid.put (h : PMid w0 w b E R A c st x) (hb : Bs w (fun k => k < w0.heap.size) (.slice A1 st'.1.length c1) st'.1) (hl : st'.1.length ≤ 140737488355328) :
    PMid w0 ((w.setCell ⟨b, 0, none⟩ (.slice A1 st'.1.length c1)).setCell ⟨b, 1, none⟩ (.int .i64 st'.2)) b E R A1 c1 st' x := by
  have hc : Chg (fun k => k = b) w ((w.setCell ⟨b, 0, none⟩ (.slice A1 st'.1.length c1)).setCell ⟨b, 1, none⟩ (.int .i64 st'.2)) :=
    Chg.setCell (S := fun k => k = b) (Chg.setCell (S := fun k => k = b) (Chg.refl _ w) (p := ⟨b, 0, none⟩) (fun _ => rfl) _) (p := ⟨b, 1, none⟩) (fun _ => rfl) _
  exact ⟨two_set1 (two_set0 h.rd), hb.keep hc (fun k hk e => by have := h.old; omega), hc.at_ h.ev (fun e => h.dj.1 e.symm), hc.at_ h.res (fun e => h.dj.2.1 e.symm), h.same.since hc (fun k hk => by have := h.old; omega), h.old, h.dj, hl⟩
theorem PMid.cell (h : PMid w0 w b E R A c st x) (i : Nat) (v : Value) (hi : x[i]? = some v) : w.cell? ⟨E, i, none⟩ = some v ∧ w.frozen? ⟨E, i, none⟩ = false := by
  constructor
  · simp [World.cell?, h.ev, hi]
  · simp [World.frozen?, h.ev]
theorem PMid.res_cell (h : PMid w0 w b E R A c st x) (i : Nat) (v : Value) (hi : #[.int .i64 0, .int .i64 0, .string ⟨#[]⟩, .int .i64 0, .int .i64 0, .int .u8 0, .int .i64 0, .string ⟨#[]⟩][i]? = some v) : w.cell? ⟨R, i, none⟩ = some v ∧ w.frozen? ⟨R, i, none⟩ = false := by
  constructor
  · simp [World.cell?, h.res, hi]
  · simp [World.frozen?, h.res]
end

theorem stepNum_len (a b : Nat) (st : List UInt8 × Int) : (stepNum a b st).2.1.length ≤ st.1.length := by
  unfold stepNum
  split
  · simp
  · exact readNum_len _ _

/-- What a call leaves: w' is the world behind it; and behind the reader's store. -/
structure PStep (w0 w' : World) (b E R : Nat) (A : Option Addr) (c : Nat) (st : List UInt8 × Int) (x : Array Value) (A1 : Option Addr) (c1 : Nat) (st' : List UInt8 × Int) : Prop where
  at_ : PMid w0 w' b E R A c st x
  put : PMid w0 ((w'.setCell ⟨b, 0, none⟩ (.slice A1 st'.1.length c1)).setCell ⟨b, 1, none⟩ (.int .i64 st'.2)) b E R A1 c1 st' x
  put' : ∀ i s, PMid w0 (((w'.setCell ⟨E, i, none⟩ s).setCell ⟨b, 0, none⟩ (.slice A1 st'.1.length c1)).setCell ⟨b, 1, none⟩ (.int .i64 st'.2)) b E R A1 c1 st' (x.setIfInBounds i s)
theorem PStep.make {w0 w w' : World} {b E R : Nat} {A A1 : Option Addr} {c c1 : Nat} {st st' : List UInt8 × Int} {x : Array Value} (h : PMid w0 w b E R A c st x) (hs : Same w w') (hb : Bs w' (fun k => k < w0.heap.size) (.slice A1 st'.1.length c1) st'.1) (hl : st'.1.length ≤ st.1.length) :
    PStep w0 w' b E R A c st x A1 c1 st' := by
  have hk := h.keep hs
  have hle : st'.1.length ≤ 140737488355328 := Nat.le_trans hl h.len
  refine ⟨hk, hk.put hb hle, fun i s => (hk.store i s).put (hb.keep (S := fun k => k = E) (Chg.setCell (S := fun k => k = E) (Chg.refl _ w') (p := ⟨E, i, none⟩) (fun _ => rfl) _) (fun k hk e => by have := h.old; omega)) hle⟩

section
variable {w0 w : World} {b E R : Nat} {A : Option Addr} {c : Nat} {st : List UInt8 × Int} {x : Array Value}
theorem PMid.num (h : PMid w0 w b E R A c st x) (least most : Nat) (q : Nat × (List UInt8 × Int)) (hq : Hid (stepNum least most st = q)) :
    Calls Try.prog 80 #[rdr (.slice A st.1.length c) st.2, .int .u64 least, .int .u64 most] w fun en w' =>
      ∃ A1 c1, en = .returned (.tuple #[.int .u64 q.1, rdr (.slice A1 q.2.1.length c1) q.2.2]) ∧ PStep w0 w' b E R A c st x A1 c1 q.2 :=
  (pstep_any least most A c _ st.1 st.2 w h.bs q hq).mono fun en w' ⟨A1, c1, h1, h2, h3⟩ =>
    ⟨A1, c1, h1, PStep.make h h3 h2 (by rw [← hq.out]; exact stepNum_len _ _ _)⟩
theorem PMid.text (h : PMid w0 w b E R A c st x) (q : List UInt8 × (List UInt8 × Int)) (hq : Hid (readText st.1 st.2 40 = q)) :
    Calls Try.prog 52 #[rdr (.slice A st.1.length c) st.2, .int .i64 40] w fun en w' =>
      ∃ A1 c1, en = .returned (.tuple #[.string ⟨q.1.toArray⟩, rdr (.slice A1 q.2.1.length c1) q.2.2]) ∧ PStep w0 w' b E R A c st x A1 c1 q.2 :=
  (ptext_any _ _ st.1 st.2 40 w h.bs h.len (by omega) (by omega)).mono fun en w' ⟨v', h1, h2, h3⟩ => by
    have hl := readText_len st.1 st.2 40
    rw [hq.out] at h1 h2 hl
    obtain ⟨A1, c1, hv, -, -, -⟩ := id h2
    subst hv
    exact ⟨A1, c1, h1, PStep.make h h3 h2 hl⟩
theorem PMid.int (h : PMid w0 w b E R A c st x) (q : Int × (List UInt8 × Int)) (hq : Hid (readInt st.1 st.2 = q)) :
    Calls Try.prog 50 #[rdr (.slice A st.1.length c) st.2] w fun en w' =>
      ∃ A1 c1, en = .returned (.tuple #[.int .i64 q.1, rdr (.slice A1 q.2.1.length c1) q.2.2]) ∧ PStep w0 w' b E R A c st x A1 c1 q.2 :=
  (pint_any _ _ st.1 st.2 w h.bs).mono fun en w' ⟨v', h1, h2, h3⟩ => by
    have hl := readInt_len st.1 st.2
    rw [hq.out] at h1 h2 hl
    obtain ⟨A1, c1, hv, -, -, -⟩ := id h2
    subst hv
    exact ⟨A1, c1, h1, PStep.make h h3 h2 hl⟩
end

set_option maxHeartbeats 4000000 in
set_option maxRecDepth 100000 in
theorem pdecode_any (v : Value) (F0 : Nat → Prop) (l : List UInt8) (w : World) (h : Bs w F0 v l) (hl : l.length ≤ 140737488355328) :
    Calls Try.prog 72 #[v] w fun en w' => en = .returned (decV (decE l)) ∧ Same w w' := by
  obtain ⟨A, cap, hv, -, -, -⟩ := id h
  subst hv
  obtain ⟨q1, H1⟩ : ∃ q, Hid (stepNum 1 9223372036854775807 (l, 0) = q) := ⟨_, rfl⟩
  obtain ⟨q2, H2⟩ : ∃ q, Hid (stepNum 1 9223372036854775807 q1.2 = q) := ⟨_, rfl⟩
  obtain ⟨q3, H3⟩ : ∃ q, Hid (readText q2.2.1 q2.2.2 40 = q) := ⟨_, rfl⟩
  obtain ⟨q4, H4⟩ : ∃ q, Hid (stepNum 0 2147483647 q3.2 = q) := ⟨_, rfl⟩
  obtain ⟨q5, H5⟩ : ∃ q, Hid (stepNum 0 3 q4.2 = q) := ⟨_, rfl⟩
  obtain ⟨q6, H6⟩ : ∃ q, Hid (stepNum 1 4 q5.2 = q) := ⟨_, rfl⟩
  obtain ⟨q7, H7⟩ : ∃ q, Hid (readInt q6.2.1 q6.2.2 = q) := ⟨_, rfl⟩
  obtain ⟨q8, H8⟩ : ∃ q, Hid (readText q7.2.1 q7.2.2 40 = q) := ⟨_, rfl⟩
  obtain ⟨d, HD⟩ : ∃ d, Hid (decE l = d) := ⟨_, rfl⟩
  rw [HD.out]
  have HE : Hid (d = ⟨q1.1, q2.1, q3.1, q4.1, q5.1, q6.1, q7.1, q8.1, endErr q8.2.1 q8.2.2⟩) := HD.out.symm.trans (decE_is H1 H2 H3 H4 H5 H6 H7 H8)
  clear HD
  go_enter Try.func72, Try.ntmps72
  go_wp2_with fail
  have hM0 : PMid w (((w.alloc (.cells #[.int .i64 0, .int .i64 0, .string ⟨#[]⟩, .int .i64 0, .int .i64 0, .int .u8 0, .int .i64 0, .string ⟨#[]⟩] 49)).alloc (.cells #[.slice A l.length cap, .int .i64 0] 107)).alloc (.cells #[.int .i64 0, .int .i64 0, .string ⟨#[]⟩, .int .i64 0, .int .i64 0, .int .u8 0, .int .i64 0, .string ⟨#[]⟩] 49)) (w.heap.size + 1) (w.heap.size + 1 + 1) w.heap.size A cap (l, 0) #[.int .i64 0, .int .i64 0, .string ⟨#[]⟩, .int .i64 0, .int .i64 0, .int .u8 0, .int .i64 0, .string ⟨#[]⟩] := by
    have k1 : Same (w.alloc (.cells #[.int .i64 0, .int .i64 0, .string ⟨#[]⟩, .int .i64 0, .int .i64 0, .int .u8 0, .int .i64 0, .string ⟨#[]⟩] 49)) (((w.alloc (.cells #[.int .i64 0, .int .i64 0, .string ⟨#[]⟩, .int .i64 0, .int .i64 0, .int .u8 0, .int .i64 0, .string ⟨#[]⟩] 49)).alloc (.cells #[.slice A l.length cap, .int .i64 0] 107)).alloc (.cells #[.int .i64 0, .int .i64 0, .string ⟨#[]⟩, .int .i64 0, .int .i64 0, .int .u8 0, .int .i64 0, .string ⟨#[]⟩] 49)) := ((Chg.refl _ _).alloc _).alloc _
    obtain ⟨b1, b2, -, -⟩ := two_new (Chg.refl (fun _ => False) (((w.alloc (.cells #[.int .i64 0, .int .i64 0, .string ⟨#[]⟩, .int .i64 0, .int .i64 0, .int .u8 0, .int .i64 0, .string ⟨#[]⟩] 49)).alloc (.cells #[.slice A l.length cap, .int .i64 0] 107)).alloc (.cells #[.int .i64 0, .int .i64 0, .string ⟨#[]⟩, .int .i64 0, .int .i64 0, .int .u8 0, .int .i64 0, .string ⟨#[]⟩] 49)))
    have es : (w.alloc (.cells #[.int .i64 0, .int .i64 0, .string ⟨#[]⟩, .int .i64 0, .int .i64 0, .int .u8 0, .int .i64 0, .string ⟨#[]⟩] 49)).heap.size = w.heap.size + 1 := by simp
    rw [es] at b1 b2
    refine ⟨b1, ((h.mono (G := fun k => k < w.heap.size) (fun k h _ => h)).same (Chg.alloc_ _ w _)).same k1, b2, k1.at_ (heap_alloc_new w _) (fun h => h), (Chg.alloc_ _ w _).trans k1, by omega, by omega, hl⟩
  generalize w.heap.size + 1 + 1 = E at *
  generalize w.heap.size + 1 = b at *
  obtain ⟨hbE, -⟩ := hM0.dj
  refine (hM0.num 1 9223372036854775807 q1 H1).mono ?_
  rintro _ w1 ⟨A1, k1, rfl, hK1⟩
  clear hM0
  obtain ⟨b0, b1, g0, g1⟩ := two_cells hK1.at_.rd
  obtain ⟨c0, f0⟩ := hK1.at_.cell 0 _ rfl
  go_wp2_with fail
  refine ((hK1.put.store 0 _).num 1 9223372036854775807 q2 H2).mono ?_
  rintro _ w2 ⟨A2, k2, rfl, hK2⟩
  clear hK1 b0 b1 g0 g1 c0 f0
  obtain ⟨b0, b1, g0, g1⟩ := two_cells hK2.at_.rd
  obtain ⟨c1, f1⟩ := hK2.at_.cell 1 _ rfl
  go_wp2_with fail
  refine ((hK2.put.store 1 _).text q3 H3).mono ?_
  rintro _ w3 ⟨A3, k3, rfl, hK3⟩
  clear hK2 b0 b1 g0 g1 c1 f1
  obtain ⟨b0, b1, g0, g1⟩ := two_cells hK3.at_.rd
  obtain ⟨c2, f2⟩ := hK3.at_.cell 2 _ rfl
  go_wp2_with fail
  refine ((hK3.put' 2 _).num 0 2147483647 q4 H4).mono ?_
  rintro _ w4 ⟨A4, k4, rfl, hK4⟩
  clear hK3 b0 b1 g0 g1 c2 f2
  obtain ⟨b0, b1, g0, g1⟩ := two_cells hK4.at_.rd
  obtain ⟨c3, f3⟩ := hK4.at_.cell 3 _ rfl
  go_wp2_with fail
  refine ((hK4.put.store 3 _).num 0 3 q5 H5).mono ?_
  rintro _ w5 ⟨A5, k5, rfl, hK5⟩
  clear hK4 b0 b1 g0 g1 c3 f3
  obtain ⟨b0, b1, g0, g1⟩ := two_cells hK5.at_.rd
  obtain ⟨c4, f4⟩ := hK5.at_.cell 4 _ rfl
  go_wp2_with fail
  refine ((hK5.put.store 4 _).num 1 4 q6 H6).mono ?_
  rintro _ w6 ⟨A6, k6, rfl, hK6⟩
  clear hK5 b0 b1 g0 g1 c4 f4
  obtain ⟨b0, b1, g0, g1⟩ := two_cells hK6.at_.rd
  obtain ⟨c5, f5⟩ := hK6.at_.cell 5 _ rfl
  go_wp2_with fail
  refine ((hK6.put.store 5 _).int q7 H7).mono ?_
  rintro _ w7 ⟨A7, k7, rfl, hK7⟩
  clear hK6 b0 b1 g0 g1 c5 f5
  obtain ⟨b0, b1, g0, g1⟩ := two_cells hK7.at_.rd
  obtain ⟨c6, f6⟩ := hK7.at_.cell 6 _ rfl
  go_wp2_with fail
  refine ((hK7.put' 6 _).text q8 H8).mono ?_
  rintro _ w8 ⟨A8, k8, rfl, hK8⟩
  clear hK7 b0 b1 g0 g1 c6 f6
  obtain ⟨b0, b1, g0, g1⟩ := two_cells hK8.at_.rd
  obtain ⟨c7, f7⟩ := hK8.at_.cell 7 _ rfl
  have HP := Lib.hid (hK8.put' 7 (.string ⟨q8.1.toArray⟩))
  go_wp2_with fail
  refine (pend_any _ _ q8.2.1 q8.2.2 _ HP.out.bs).mono ?_
  rintro _ w9 ⟨rfl, hs9⟩
  have hM9 : PMid w w9 b E w.heap.size A8 k8 q8.2 #[.int .i64 (wrap64 q1.1), .int .i64 (wrap64 q2.1), .string ⟨q3.1.toArray⟩, .int .i64 (wrap64 q4.1), .int .i64 (wrap64 q5.1), .int .u8 ((q6.1 : Int) % 256), .int .i64 q7.1, .string ⟨q8.1.toArray⟩] := HP.out.keep hs9
  clear HP hs9 hK8 b0 b1 g0 g1 c7 f7
  obtain ⟨r0, rf0⟩ := hM9.res_cell 0 _ rfl
  obtain ⟨x0, -⟩ := hM9.cell 0 _ rfl
  obtain ⟨r1, rf1⟩ := hM9.res_cell 1 _ rfl
  obtain ⟨x1, -⟩ := hM9.cell 1 _ rfl
  obtain ⟨r2, rf2⟩ := hM9.res_cell 2 _ rfl
  obtain ⟨x2, -⟩ := hM9.cell 2 _ rfl
  obtain ⟨r3, rf3⟩ := hM9.res_cell 3 _ rfl
  obtain ⟨x3, -⟩ := hM9.cell 3 _ rfl
  obtain ⟨r4, rf4⟩ := hM9.res_cell 4 _ rfl
  obtain ⟨x4, -⟩ := hM9.cell 4 _ rfl
  obtain ⟨r5, rf5⟩ := hM9.res_cell 5 _ rfl
  obtain ⟨x5, -⟩ := hM9.cell 5 _ rfl
  obtain ⟨r6, rf6⟩ := hM9.res_cell 6 _ rfl
  obtain ⟨x6, -⟩ := hM9.cell 6 _ rfl
  obtain ⟨r7, rf7⟩ := hM9.res_cell 7 _ rfl
  obtain ⟨x7, -⟩ := hM9.cell 7 _ rfl
  have hsame := hM9.same
  have hRE := hM9.dj.2.2
  have hRn : w.heap.size ≤ w.heap.size := Nat.le_refl _
  clear hM9
  generalize hRw : w.heap.size = R at *
  have HR : Hid (w.heap.size ≤ R) := by show _ ≤ _; omega
  clear hRw hRn
  obtain ⟨f9, HF⟩ : ∃ f, Hid (endErr q8.2.1 q8.2.2 = f) := ⟨_, rfl⟩
  rw [HF.out]
  have hd : d.f = f9 := by rw [HE.out, ← HF.out]
  by_cases hf : f9 = 0
  · subst hf
    have HV : Hid (decV d = .tuple #[evv (wrap64 q1.1) (wrap64 q2.1) ⟨q3.1.toArray⟩ (wrap64 q4.1) (wrap64 q5.1) ((q6.1 : Int) % 256) q7.1 ⟨q8.1.toArray⟩, .int .i64 0]) := by
      show _ = _
      have hz : endErr q8.2.1 q8.2.2 = 0 := by rw [HE.out] at hd; exact hd
      obtain ⟨⟨z1, a1, b1⟩, ⟨z2, a2, b2⟩, ⟨z4, b4⟩, ⟨z5, b5⟩, z6, a6, b6⟩ := dec_good H1 H2 H3 H4 H5 H6 H7 H8 hz
      have w1' : wrap64 (q1.1 : Int) = q1.1 := by unfold wrap64; omega
      have w2' : wrap64 (q2.1 : Int) = q2.1 := by unfold wrap64; omega
      have w4' : wrap64 (q4.1 : Int) = q4.1 := by unfold wrap64; omega
      have w5' : wrap64 (q5.1 : Int) = q5.1 := by unfold wrap64; omega
      have w6' : (q6.1 : Int) % 256 = q6.1 := by omega
      unfold decV
      rw [if_pos hd, HE.out, w1', w2', w4', w5', w6']
    clear hd
    go_wp2_with fail
    refine bodyPost_ret (v := .tuple #[evv (wrap64 q1.1) (wrap64 q2.1) ⟨q3.1.toArray⟩ (wrap64 q4.1) (wrap64 q5.1) ((q6.1 : Int) % 256) q7.1 ⟨q8.1.toArray⟩, .int .i64 0]) (by simp [results, Try.results72, go_sem, evv, r0, r1, r2, r3, r4, r5, r6, r7]) rfl ⟨by rw [HV.out], ?_⟩
    exact (((((((hsame.far HR.out _).far HR.out _).far HR.out _).far HR.out _).far HR.out _).far HR.out _).far HR.out _).far HR.out _
  · have hf0 : (f9 == 0) = false := by simp [hf]
    have hf1 : (f9 != 0) = true := by simp [hf]
    have HV : Hid (decV d = .tuple #[noEv, .int .i64 f9]) := by show _ = _; unfold decV; rw [if_neg (by rw [hd]; exact hf), hd]
    clear hd hf
    go_wp2_with fail
    refine bodyPost_ret (v := .tuple #[noEv, .int .i64 f9]) (by simp [results, Try.results72, go_sem, evv, noEv, r0, r1, r2, r3, r4, r5, r6, r7]) rfl ⟨by rw [HV.out], ?_⟩
    exact (((((((hsame.far HR.out _).far HR.out _).far HR.out _).far HR.out _).far HR.out _).far HR.out _).far HR.out _).far HR.out _
end Go.Proofs.Ytdkankiohoocaaa
