/- The walk of event.Decode. -/
import Derived.Test.YtdkankiohoocaaaQEv1
namespace Go.Proofs.Ytdkankiohoocaaa
set_option linter.unusedSimpArgs false
set_option linter.unusedVariables false
open Go Go.RowKit Go.Proofs

/-- What is read of an event. -/
structure Dec where
  id : Nat
  tx : Nat
  owner : List UInt8
  tries : Nat
  table : Nat
  kind : Nat
  key : Int
  text : List UInt8
  f : Int
/-- An event's bytes, read. -/
def decE (l : List UInt8) : Dec :=
  let q1 := stepNum 1 9223372036854775807 (l, 0)
  let q2 := stepNum 1 9223372036854775807 q1.2
  let q3 := readText q2.2.1 q2.2.2 40
  let q4 := stepNum 0 2147483647 q3.2
  let q5 := stepNum 0 3 q4.2
  let q6 := stepNum 1 4 q5.2
  let q7 := readInt q6.2.1 q6.2.2
  let q8 := readText q7.2.1 q7.2.2 40
  ⟨q1.1, q2.1, q3.1, q4.1, q5.1, q6.1, q7.1, q8.1, endErr q8.2.1 q8.2.2⟩
def noEv : Value := evv 0 0 ⟨#[]⟩ 0 0 0 0 ⟨#[]⟩
def decV (d : Dec) : Value := if d.f = 0 then .tuple #[evv d.id d.tx ⟨d.owner.toArray⟩ d.tries d.table d.kind d.key ⟨d.text.toArray⟩, .int .i64 0] else .tuple #[noEv, .int .i64 d.f]

/-- In the midst of Decode: the scan, the event in block E, the result in block R. -/
structure Mid (w0 w : World) (F : Nat → Prop) (s a E R : Nat) (st : List UInt8 × Int) (x : Array Value) : Prop where
  sc : Sc w F s a st
  ev : w.heap[E]? = some (.cells x 49 (0, 0))
  res : w.heap[R]? = some (.cells #[.int .i64 0, .int .i64 0, .string ⟨#[]⟩, .int .i64 0, .int .i64 0, .int .u8 0, .int .i64 0, .string ⟨#[]⟩] 49 (0, 0))
  same : Same w0 w
  old : ∀ k, (k = s ∨ k = a ∨ k = E ∨ k = R) → w0.heap.size ≤ k
  dj : E ≠ s ∧ E ≠ a ∧ R ≠ s ∧ R ≠ a ∧ R ≠ E
  nf : ¬ F E ∧ ¬ F R

theorem Mid.call {w0 w w' : World} {F : Nat → Prop} {s a E R : Nat} {st st' : List UInt8 × Int} {x : Array Value} (h : Mid w0 w F s a E R st x) (hp : ScPost w w' F s a st') : Mid w0 w' F s a E R st' x :=
  ⟨hp.1, hp.2.at_ h.ev (fun e => by have := h.dj; omega), hp.2.at_ h.res (fun e => by have := h.dj; omega), h.same.since hp.2 (fun k hk => h.old k (by omega)), h.old, h.dj, h.nf⟩
theorem Mid.store {w0 w : World} {F : Nat → Prop} {s a E R : Nat} {st : List UInt8 × Int} {x : Array Value} (h : Mid w0 w F s a E R st x) (i : Nat) (v : Value) : Mid w0 (w.setCell ⟨E, i, none⟩ v) F s a E R st (x.setIfInBounds i v) := by
  have hc : Chg (fun k => k = E) w (w.setCell ⟨E, i, none⟩ v) := Chg.setCell (S := fun k => k = E) (Chg.refl _ w) (p := ⟨E, i, none⟩) (fun _ => rfl) _
  obtain ⟨l, e, wr, hV, hst⟩ := h.sc
  refine ⟨⟨l, e, wr, hV.keep hc (fun e => h.dj.1 e.symm) (fun k hk e => h.nf.1 (e ▸ hk)), hst⟩, ?_, hc.at_ h.res (fun e => by have := h.dj; omega), h.same.since hc (fun k hk => h.old k (by omega)), h.old, h.dj, h.nf⟩
  simp [World.setCell, Array.getElem?_modify, h.ev]
theorem Mid.cell {w0 w : World} {F : Nat → Prop} {s a E R : Nat} {st : List UInt8 × Int} {x : Array Value} (h : Mid w0 w F s a E R st x) (i : Nat) (v : Value) (hi : x[i]? = some v) : w.cell? ⟨E, i, none⟩ = some v ∧ w.frozen? ⟨E, i, none⟩ = false := by
  constructor
  · simp [World.cell?, h.ev, hi]
  · simp [World.frozen?, h.ev]

theorem Mid.res_cell {w0 w : World} {F : Nat → Prop} {s a E R : Nat} {st : List UInt8 × Int} {x : Array Value} (h : Mid w0 w F s a E R st x) (i : Nat) (v : Value) (hi : #[.int .i64 0, .int .i64 0, .string ⟨#[]⟩, .int .i64 0, .int .i64 0, .int .u8 0, .int .i64 0, .string ⟨#[]⟩][i]? = some v) : w.cell? ⟨R, i, none⟩ = some v ∧ w.frozen? ⟨R, i, none⟩ = false := by
  constructor
  · simp [World.cell?, h.res, hi]
  · simp [World.frozen?, h.res]

theorem rint_is (a : Nat) (F : Nat → Prop) (l : List UInt8) (e : Int) (w : World) (h : Rd w F a l e) (n : Int) (l1 : List UInt8) (e1 : Int) (hq : readInt l e = (n, l1, e1)) :
    Calls Try.prog 78 #[.pointer (some ⟨a, 0, none⟩)] w fun en w' => en = .returned (.int .i64 n) ∧ RdPost w w' F a l1 e1 :=
  (rint_any' a F l e w h).mono fun e w' h => by rw [hq] at h; exact h

theorem readText_err (l : List UInt8) (e most : Int) (he : e ≠ 0) : readText l e most = ([], l, e) := by unfold readText rdText; rw [readNum_err _ _ he]; simp [he]

/-- num, in the midst of Decode. -/
def MidNum (w0 : World) (F : Nat → Prop) (s a E R : Nat) (x : Array Value) (q : Nat × (List UInt8 × Int)) (en : Ending) (w' : World) : Prop :=
  ∃ n : Nat, en = .returned (.int .u64 n) ∧ n < 18446744073709551616 ∧ Hid (q.2.2 = 0 → n = q.1) ∧ Mid w0 w' F s a E R q.2 x
theorem Mid.num {w0 w : World} {F : Nat → Prop} {s a E R : Nat} {st : List UInt8 × Int} {x : Array Value} (h : Mid w0 w F s a E R st x) (least most : Nat) (q : Nat × (List UInt8 × Int)) (hq : Hid (stepNum least most st = q)) :
    Calls Try.prog 84 #[.pointer (some ⟨s, 0, none⟩), .int .u64 least, .int .u64 most] w (MidNum w0 F s a E R x q) :=
  (snum_any least most s a F st w h.sc).mono fun en w' ⟨n, h1, h2, h3, h4⟩ => by
    rw [hq.out] at h3 h4
    exact ⟨n, h1, h2, h3, h.call h4⟩
theorem Mid.text {w0 w : World} {F : Nat → Prop} {s a E R : Nat} {st : List UInt8 × Int} {x : Array Value} (h : Mid w0 w F s a E R st x) (q : List UInt8 × (List UInt8 × Int)) (hq : Hid (readText st.1 st.2 40 = q)) :
    Calls Try.prog 85 #[.pointer (some ⟨s, 0, none⟩)] w fun en w' => en = .returned (.string ⟨q.1.toArray⟩) ∧ Mid w0 w' F s a E R q.2 x :=
  (stext_any s a F st w h.sc).mono fun en w' ⟨h1, h2⟩ => by
    rw [hq.out] at h1 h2
    exact ⟨h1, h.call h2⟩

theorem decE_is {l : List UInt8} {q1 q2 q4 q5 q6 : Nat × (List UInt8 × Int)} {q3 q8 : List UInt8 × (List UInt8 × Int)} {q7 : Int × (List UInt8 × Int)}
    (h1 : Hid (stepNum 1 9223372036854775807 (l, 0) = q1)) (h2 : Hid (stepNum 1 9223372036854775807 q1.2 = q2)) (h3 : Hid (readText q2.2.1 q2.2.2 40 = q3)) (h4 : Hid (stepNum 0 2147483647 q3.2 = q4))
    (h5 : Hid (stepNum 0 3 q4.2 = q5)) (h6 : Hid (stepNum 1 4 q5.2 = q6)) (h7 : Hid (readInt q6.2.1 q6.2.2 = q7)) (h8 : Hid (readText q7.2.1 q7.2.2 40 = q8)) :
    decE l = ⟨q1.1, q2.1, q3.1, q4.1, q5.1, q6.1, q7.1, q8.1, endErr q8.2.1 q8.2.2⟩ := by
  have h1 := h1.out; have h2 := h2.out; have h3 := h3.out; have h4 := h4.out; have h5 := h5.out; have h6 := h6.out; have h7 := h7.out; have h8 := h8.out
  subst h1; subst h2; subst h3; subst h4; subst h5; subst h6; subst h7; subst h8
  rfl
theorem readNum_zero {l : List UInt8} {e : Int} (h : (readNum l e).2.2 = 0) : e = 0 := by
  by_cases he : e = 0
  · exact he
  · rw [readNum_err l e he] at h; exact h
theorem stepNum_zero {a b : Nat} {st : List UInt8 × Int} {q : Nat × (List UInt8 × Int)} (hq : Hid (stepNum a b st = q)) (h : q.2.2 = 0) : st.2 = 0 ∧ a ≤ q.1 ∧ q.1 ≤ b := by
  have hq := hq.out
  unfold stepNum at hq
  split at hq
  · subst hq; cases h
  · rename_i hn
    subst hq
    refine ⟨readNum_zero h, ?_, ?_⟩
    · exact Nat.le_of_not_lt fun hc => hn ⟨h, .inl hc⟩
    · exact Nat.le_of_not_lt fun hc => hn ⟨h, .inr hc⟩
theorem readText_zero {l : List UInt8} {e most : Int} {q : List UInt8 × (List UInt8 × Int)} (hq : Hid (readText l e most = q)) (h : q.2.2 = 0) : e = 0 := by
  by_cases he : e = 0
  · exact he
  · have hq := hq.out
    rw [readText_err l e most he] at hq
    subst hq; exact h
theorem readInt_zero {l : List UInt8} {e : Int} {q : Int × (List UInt8 × Int)} (hq : Hid (readInt l e = q)) (h : q.2.2 = 0) : e = 0 := by
  have hq := hq.out
  subst hq
  exact readNum_zero h
theorem endErr_zero {l : List UInt8} {e : Int} (h : endErr l e = 0) : e = 0 := by
  unfold endErr at h
  split at h
  · cases h
  · exact h
/-- Where no error is told, all numbers are as they may be. -/
theorem dec_good {l : List UInt8} {q1 q2 q4 q5 q6 : Nat × (List UInt8 × Int)} {q3 q8 : List UInt8 × (List UInt8 × Int)} {q7 : Int × (List UInt8 × Int)}
    (h1 : Hid (stepNum 1 9223372036854775807 (l, 0) = q1)) (h2 : Hid (stepNum 1 9223372036854775807 q1.2 = q2)) (h3 : Hid (readText q2.2.1 q2.2.2 40 = q3)) (h4 : Hid (stepNum 0 2147483647 q3.2 = q4))
    (h5 : Hid (stepNum 0 3 q4.2 = q5)) (h6 : Hid (stepNum 1 4 q5.2 = q6)) (h7 : Hid (readInt q6.2.1 q6.2.2 = q7)) (h8 : Hid (readText q7.2.1 q7.2.2 40 = q8)) (hf : endErr q8.2.1 q8.2.2 = 0) :
    (q1.2.2 = 0 ∧ 1 ≤ q1.1 ∧ q1.1 ≤ 9223372036854775807) ∧ (q2.2.2 = 0 ∧ 1 ≤ q2.1 ∧ q2.1 ≤ 9223372036854775807) ∧ (q4.2.2 = 0 ∧ q4.1 ≤ 2147483647) ∧ (q5.2.2 = 0 ∧ q5.1 ≤ 3) ∧ (q6.2.2 = 0 ∧ 1 ≤ q6.1 ∧ q6.1 ≤ 4) := by
  have e8 := endErr_zero hf
  have e7 := readText_zero h8 e8
  have e6 := readInt_zero h7 e7
  have s6 := stepNum_zero h6 e6
  have s5 := stepNum_zero h5 s6.1
  have s4 := stepNum_zero h4 s5.1
  have e2 := readText_zero h3 s4.1
  have s2 := stepNum_zero h2 e2
  have s1 := stepNum_zero h1 s2.1
  exact ⟨⟨s2.1, s1.2⟩, ⟨e2, s2.2⟩, ⟨s5.1, s4.2.2⟩, ⟨s6.1, s5.2.2⟩, ⟨e6, s6.2⟩⟩

set_option maxHeartbeats 4000000 in
set_option maxRecDepth 100000 in
theorem edecode_any (v : Value) (F0 : Nat → Prop) (l : List UInt8) (w : World) (h : Bs w F0 v l) (hl : l.length ≤ 140737488355328) :
    Calls Try.prog 82 #[v] w fun en w' => en = .returned (decV (decE l)) ∧ Same w w' := by
  obtain ⟨A, cap, hv, -, -, -⟩ := id h
  subst hv
  obtain ⟨q1, H1⟩ : ∃ q, Hid (stepNum 1 9223372036854775807 (l, 0) = q) := ⟨_, rfl⟩
  obtain ⟨q2, H2⟩ : ∃ q, Hid (stepNum 1 9223372036854775807 q1.2 = q) := ⟨_, rfl⟩
  obtain ⟨q3, H3⟩ : ∃ q, Hid (readText q2.2.1 q2.2.2 40 = q) := ⟨_, rfl⟩
  obtain ⟨q4, H4⟩ : ∃ q, Hid (stepNum 0 2147483647 q3.2 = q) := ⟨_, rfl⟩
  obtain ⟨q5, H5⟩ : ∃ q, Hid (stepNum 0 3 q4.2 = q) := ⟨_, rfl⟩
  obtain ⟨q6, H6⟩ : ∃ q, Hid (stepNum 1 4 q5.2 = q) := ⟨_, rfl⟩
  obtain ⟨q7, H7⟩ : ∃ q, Hid (readInt q6.2.1 q6.2.2 = q) := ⟨_, rfl⟩
  obtain ⟨q8, H8⟩ : ∃ q, Hid (readText q7.2.1 q7.2.2 40 = q) := ⟨_, rfl⟩
  obtain ⟨d, HD⟩ : ∃ d, Hid (decE l = d) := ⟨_, rfl⟩
  rw [HD.out]
  have HE : Hid (d = ⟨q1.1, q2.1, q3.1, q4.1, q5.1, q6.1, q7.1, q8.1, endErr q8.2.1 q8.2.2⟩) := HD.out.symm.trans (decE_is H1 H2 H3 H4 H5 H6 H7 H8)
  clear HD
  go_enter Try.func82, Try.ntmps82
  go_wp2_with fail
  refine (newr_any _ l _ _ (h.alloc _) hl).mono ?_
  rintro _ w1 ⟨a, F, rfl, hR1, hs1, hN1⟩
  go_wp2_with fail
  have hM0 : Mid w ((w1.alloc (.cells #[.pointer (some ⟨a, 0, none⟩), .bool false] 146)).alloc (.cells #[.int .i64 0, .int .i64 0, .string ⟨#[]⟩, .int .i64 0, .int .i64 0, .int .u8 0, .int .i64 0, .string ⟨#[]⟩] 49)) F w1.heap.size a (w1.heap.size + 1) w.heap.size (l, 0) #[.int .i64 0, .int .i64 0, .string ⟨#[]⟩, .int .i64 0, .int .i64 0, .int .u8 0, .int .i64 0, .string ⟨#[]⟩] := by
    have hlt : Lt F w1 := by obtain ⟨v, h⟩ := hR1; exact h.lt
    have haF := hR1.mine
    have h1 := hN1 a haF
    have h2 := hlt a haF
    have h3 := hs1.size
    simp at h1 h3
    have k0 : Same w1 ((w1.alloc (.cells #[.pointer (some ⟨a, 0, none⟩), .bool false] 146)).alloc (.cells #[.int .i64 0, .int .i64 0, .string ⟨#[]⟩, .int .i64 0, .int .i64 0, .int .u8 0, .int .i64 0, .string ⟨#[]⟩] 49)) := ((Chg.refl _ w1).alloc _).alloc _
    obtain ⟨b1, b2, b3, -⟩ := two_new (Chg.refl (fun _ => False) ((w1.alloc (.cells #[.pointer (some ⟨a, 0, none⟩), .bool false] 146)).alloc (.cells #[.int .i64 0, .int .i64 0, .string ⟨#[]⟩, .int .i64 0, .int .i64 0, .int .u8 0, .int .i64 0, .string ⟨#[]⟩] 49)))
    refine ⟨⟨l, 0, false, ⟨b1, hR1.keep k0 (fun _ _ h => h), fun hF => by have := hlt _ hF; omega, hl⟩, rfl⟩, b2, ?_, (Chg.alloc_ _ w _).trans (hs1.trans k0), ?_, ?_, ?_⟩
    · exact k0.at_ (hs1.at_ (heap_alloc_new w _) (fun h => h)) (fun h => h)
    · intro k hk; omega
    · omega
    · exact ⟨fun hF => by have := hlt _ hF; omega, fun hF => by have := hN1 _ hF; simp at this; omega⟩
  clear hs1 hN1 hR1
  generalize w1.heap.size + 1 = E at *
  generalize w1.heap.size = s at *
  refine (hM0.num 1 9223372036854775807 q1 H1).mono ?_
  rintro _ w2 ⟨n1, rfl, hn1, hx1, hM1⟩
  clear hM0
  go_wp2_with fail
  refine (hM1.num 1 9223372036854775807 q2 H2).mono ?_
  rintro _ w3 ⟨n2, rfl, hn2, hx2, hM2⟩
  clear hM1
  obtain ⟨c0, f0⟩ := hM2.cell 0 _ rfl
  obtain ⟨c1, f1⟩ := hM2.cell 1 _ rfl
  go_wp2_with fail
  refine (((hM2.store 0 _).store 1 _).text q3 H3).mono ?_
  rintro _ w4 ⟨rfl, hM4⟩
  clear hM2 c0 f0 c1 f1
  obtain ⟨c2, f2⟩ := hM4.cell 2 _ rfl
  go_wp2_with fail
  refine ((hM4.store 2 _).num 0 2147483647 q4 H4).mono ?_
  rintro _ w5 ⟨n4, rfl, hn4, hx4, hM5⟩
  clear hM4 c2 f2
  go_wp2_with fail
  refine (hM5.num 0 3 q5 H5).mono ?_
  rintro _ w6 ⟨n5, rfl, hn5, hx5, hM6⟩
  clear hM5
  obtain ⟨c3, f3⟩ := hM6.cell 3 _ rfl
  obtain ⟨c4, f4⟩ := hM6.cell 4 _ rfl
  go_wp2_with fail
  refine (((hM6.store 3 _).store 4 _).num 1 4 q6 H6).mono ?_
  rintro _ w7 ⟨n6, rfl, hn6, hx6, hM7⟩
  clear hM6 c3 f3 c4 f4
  obtain ⟨c5, f5⟩ := hM7.cell 5 _ rfl
  obtain ⟨hEs, -⟩ := hM7.dj
  have hM8 := Lib.hid (hM7.store 5)
  obtain ⟨l7, e7, wr, hV, hst⟩ := hM7.sc
  obtain ⟨s0, s1, g0, g1⟩ := two_cells hV.blk
  have HST := Lib.hid hst
  clear hst hM7
  go_upto_region 7 with fail
  have hM9 : Mid w (w7.setCell ⟨E, 5, none⟩ (.int .u8 ((n6 : Int) % 256))) F s a E w.heap.size q6.2 #[.int .i64 (wrap64 n1), .int .i64 (wrap64 n2), .string ⟨q3.1.toArray⟩, .int .i64 (wrap64 n4), .int .i64 (wrap64 n5), .int .u8 ((n6 : Int) % 256), .int .i64 0, .string ⟨#[]⟩] := hM8.out _
  have hV9 : ScV (w7.setCell ⟨E, 5, none⟩ (.int .u8 ((n6 : Int) % 256))) F s a l7 e7 wr := hV.keep (S := fun k => k = E) (Chg.setCell (S := fun k => k = E) (Chg.refl _ w7) (p := ⟨E, 5, none⟩) (fun _ => rfl) _) (fun e => hEs e.symm) (fun k hk e => hM9.nf.1 (e ▸ hk))
  clear s0 s1 g0 g1 c5 f5 hM8 hV
  generalize w7.setCell ⟨E, 5, none⟩ (.int .u8 ((n6 : Int) % 256)) = w8 at *
  obtain ⟨s0, s1, g0, g1⟩ := two_cells hV9.blk
  go_upto_if 38 with (fail)
  go_cut [5] (fun v wc => v = .pointer (some ⟨E, 0, none⟩) ∧ Mid w wc F s a E w.heap.size q7.2 #[.int .i64 (wrap64 n1), .int .i64 (wrap64 n2), .string ⟨q3.1.toArray⟩, .int .i64 (wrap64 n4), .int .i64 (wrap64 n5), .int .u8 ((n6 : Int) % 256), .int .i64 q7.1, .string ⟨#[]⟩])
  case first =>
    cases wr
    · have HST' : q6.2 = (l7, e7) := HST.out
      have HQ : Hid (readInt l7 e7 = (q7.1, q7.2.1, q7.2.2)) := by have h := H7.out; rw [HST'] at h; exact h
      have hll := readInt_len l7 e7
      rw [HQ.out] at hll
      obtain ⟨c6, f6⟩ := hM9.cell 6 _ rfl
      clear HST'
      go_wp2_with fail
      refine (rint_is a F l7 e7 _ hV9.rd q7.1 q7.2.1 q7.2.2 HQ.out).mono ?_
      rintro _ w9 ⟨rfl, hP⟩
      have hM10 := hM9.call (st' := q7.2) ⟨⟨_, _, false, hV9.read hP hll, rfl⟩, hP.2.mono (fun _ h => .inr h)⟩
      obtain ⟨c6', f6'⟩ := hM10.cell 6 _ rfl
      have hM11 := Lib.hid (hM10.store 6)
      clear hM9 hM10 hP c6 f6
      go_wp2_with fail
      go_meet
      case rel => exact ⟨rfl, hM11.out _⟩
    · have HST' : q6.2 = ([], 2) := HST.out
      have HQ : q7 = (0, [], 2) := by have h := H7.out; rw [HST'] at h; rw [← h]; unfold readInt; rw [readNum_err _ _ (by decide)]; rfl
      rw [HST'] at hM9
      have HQ' := Lib.hid HQ
      clear HQ HST'
      go_wp2_with fail
      go_meet
      case rel => rw [HQ'.out]; exact ⟨rfl, hM9⟩
  case rest =>
    obtain ⟨rfl, hM12⟩ := hcut
    clear hM9 hV9 s0 s1 g0 g1 HST
    go_wp2_with fail
    refine (hM12.text q8 H8).mono ?_
    rintro _ w13 ⟨rfl, hM13⟩
    clear hM12
    obtain ⟨c7, f7⟩ := hM13.cell 7 _ rfl
    have hM14 := Lib.hid (hM13.store 7)
    clear hM13
    go_upto_region 10 with fail
    have hM15 : Mid w (w13.setCell ⟨E, 7, none⟩ (.string ⟨q8.1.toArray⟩)) F s a E w.heap.size q8.2 #[.int .i64 (wrap64 n1), .int .i64 (wrap64 n2), .string ⟨q3.1.toArray⟩, .int .i64 (wrap64 n4), .int .i64 (wrap64 n5), .int .u8 ((n6 : Int) % 256), .int .i64 q7.1, .string ⟨q8.1.toArray⟩] := hM14.out _
    clear c7 f7 hM14
    generalize w13.setCell ⟨E, 7, none⟩ (.string ⟨q8.1.toArray⟩) = W at *
    obtain ⟨l9, e9, wr9, hV, hst⟩ := hM15.sc
    obtain ⟨s0, s1, g0, g1⟩ := two_cells hV.blk
    obtain ⟨r0, rf0⟩ := hM15.res_cell 0 _ rfl
    obtain ⟨x0, -⟩ := hM15.cell 0 _ rfl
    obtain ⟨r1, rf1⟩ := hM15.res_cell 1 _ rfl
    obtain ⟨x1, -⟩ := hM15.cell 1 _ rfl
    obtain ⟨r2, rf2⟩ := hM15.res_cell 2 _ rfl
    obtain ⟨x2, -⟩ := hM15.cell 2 _ rfl
    obtain ⟨r3, rf3⟩ := hM15.res_cell 3 _ rfl
    obtain ⟨x3, -⟩ := hM15.cell 3 _ rfl
    obtain ⟨r4, rf4⟩ := hM15.res_cell 4 _ rfl
    obtain ⟨x4, -⟩ := hM15.cell 4 _ rfl
    obtain ⟨r5, rf5⟩ := hM15.res_cell 5 _ rfl
    obtain ⟨x5, -⟩ := hM15.cell 5 _ rfl
    obtain ⟨r6, rf6⟩ := hM15.res_cell 6 _ rfl
    obtain ⟨x6, -⟩ := hM15.cell 6 _ rfl
    obtain ⟨r7, rf7⟩ := hM15.res_cell 7 _ rfl
    obtain ⟨x7, -⟩ := hM15.cell 7 _ rfl
    have hsame := hM15.same
    have hRn : w.heap.size ≤ w.heap.size := Nat.le_refl _
    have HST := Lib.hid hst
    obtain ⟨f9, HF⟩ : ∃ f, Hid (endErr l9 e9 = f) := ⟨_, rfl⟩
    have hRE := hM15.dj.2.2.2.2
    clear hst hM15
    have HR := Lib.hid hRn
    clear hRn
    generalize hRw : w.heap.size = R at *
    have HR : Hid (w.heap.size ≤ R) := by show _ ≤ _; omega
    clear hRw
    cases wr9
    · have hd : d.f = f9 := by rw [HE.out, ← HF.out]; show endErr q8.2.1 q8.2.2 = _; rw [HST.out]; rfl
      by_cases hf : f9 = 0
      · subst hf
        have HV : Hid (decV d = .tuple #[evv (wrap64 n1) (wrap64 n2) ⟨q3.1.toArray⟩ (wrap64 n4) (wrap64 n5) ((n6 : Int) % 256) q7.1 ⟨q8.1.toArray⟩, .int .i64 0]) := by
          show _ = _
          have hz : endErr q8.2.1 q8.2.2 = 0 := by rw [HE.out] at hd; exact hd
          obtain ⟨⟨z1, a1, b1⟩, ⟨z2, a2, b2⟩, ⟨z4, b4⟩, ⟨z5, b5⟩, z6, a6, b6⟩ := dec_good H1 H2 H3 H4 H5 H6 H7 H8 hz
          have m1 := hx1.out z1
          have m2 := hx2.out z2
          have m4 := hx4.out z4
          have m5 := hx5.out z5
          have m6 := hx6.out z6
          have w1' : wrap64 (n1 : Int) = q1.1 := by unfold wrap64; omega
          have w2' : wrap64 (n2 : Int) = q2.1 := by unfold wrap64; omega
          have w4' : wrap64 (n4 : Int) = q4.1 := by unfold wrap64; omega
          have w5' : wrap64 (n5 : Int) = q5.1 := by unfold wrap64; omega
          have w6' : (n6 : Int) % 256 = q6.1 := by omega
          unfold decV
          rw [if_pos hd, HE.out, w1', w2', w4', w5', w6']
        clear hd
        go_wp2_with fail
        refine (rend_any a F l9 e9 _ hV.rd).mono ?_
        rintro _ _ ⟨rfl, rfl⟩
        rw [HF.out]
        go_wp2_with fail
        refine bodyPost_ret (v := .tuple #[evv (wrap64 n1) (wrap64 n2) ⟨q3.1.toArray⟩ (wrap64 n4) (wrap64 n5) ((n6 : Int) % 256) q7.1 ⟨q8.1.toArray⟩, .int .i64 0]) (by simp [results, Try.results82, go_sem, evv, r0, r1, r2, r3, r4, r5, r6, r7]) rfl ⟨by rw [HV.out], ?_⟩
        exact (((((((hsame.far HR.out _).far HR.out _).far HR.out _).far HR.out _).far HR.out _).far HR.out _).far HR.out _).far HR.out _
      · have hf0 : (f9 == 0) = false := by simp [hf]
        have hf1 : (f9 != 0) = true := by simp [hf]
        have HV : Hid (decV d = .tuple #[noEv, .int .i64 f9]) := by show _ = _; unfold decV; rw [if_neg (by rw [hd]; exact hf), hd]
        clear hd hf
        go_wp2_with fail
        refine (rend_any a F l9 e9 _ hV.rd).mono ?_
        rintro _ _ ⟨rfl, rfl⟩
        rw [HF.out]
        go_wp2_with fail
        refine bodyPost_ret (v := .tuple #[noEv, .int .i64 f9]) (by simp [results, Try.results82, go_sem, evv, noEv, r0, r1, r2, r3, r4, r5, r6, r7]) rfl ⟨by rw [HV.out], ?_⟩
        exact (((((((hsame.far HR.out _).far HR.out _).far HR.out _).far HR.out _).far HR.out _).far HR.out _).far HR.out _).far HR.out _
    · have HV : Hid (decV d = .tuple #[noEv, .int .i64 2]) := by
        show _ = _
        have hd : d.f = 2 := by rw [HE.out]; show endErr q8.2.1 q8.2.2 = _; rw [HST.out]; rfl
        unfold decV
        rw [if_neg (by rw [hd]; decide), hd]
      go_wp2_with fail
      refine (rend_any a F l9 e9 _ hV.rd).mono ?_
      rintro _ _ ⟨rfl, rfl⟩
      rw [HF.out]
      go_wp2_with fail
      refine bodyPost_ret (v := .tuple #[noEv, .int .i64 2]) (by simp [results, Try.results82, go_sem, evv, noEv, r0, r1, r2, r3, r4, r5, r6, r7]) rfl ⟨by rw [HV.out], ?_⟩
      exact (((((((hsame.far HR.out _).far HR.out _).far HR.out _).far HR.out _).far HR.out _).far HR.out _).far HR.out _).far HR.out _
end Go.Proofs.Ytdkankiohoocaaa
