/- The walk of carrierlaw02.laid. -/
import Derived.Test.YtahfnbgbjphngaaLBackA
namespace Go.Proofs.Ytahfnbgbjphngaa
open Go Go.RowKit Go.Proofs

/-- An item's bytes. -/
def itB (kd n : Int) (s : ByteArray) : List UInt8 := if kd % 3 = 0 then numB n.toNat else if kd % 3 = 1 then intB (wrap64 n) else textB s.data.toList
def layK (l : List It) (k : Nat) : List UInt8 := (l.take k).flatMap (fun x => itB x.kind x.n x.s)
theorem layK_zero (l : List It) : layK l 0 = [] := by simp [layK]
theorem layK_succ (l : List It) (k : Nat) (h : k < l.length) : layK l (k + 1) = layK l k ++ itB l[k].kind l[k].n l[k].s := by
  unfold layK
  rw [List.take_succ_eq_append_getElem h, List.flatMap_append]
  simp
theorem itB_len (kd n : Int) (s : ByteArray) (h0 : 0 ≤ n) (h1 : n ≤ 18446744073709551615) (hs : s.size ≤ 60) : (itB kd n s).length ≤ 70 := by
  unfold itB
  split
  · have := numB_len10 (n := n) h1; omega
  · split
    · unfold intB zig
      have hw : -9223372036854775808 ≤ wrap64 n ∧ wrap64 n ≤ 9223372036854775807 := by unfold wrap64; omega
      split
      · have := numB_len10 (n := 2 * wrap64 n) (by omega); omega
      · have := numB_len10 (n := -2 * wrap64 n - 1) (by omega); omega
    · unfold textB
      rw [List.length_append, size_toList]
      have := (numB_len 10 s.size (by omega) (by omega)).1
      omega

/-- Where laid's loop stands: the writer in block a, and p. -/
def LaidAt (w wr : World) (a : Nat) (A : Option Addr) (n c : Nat) (lk : List UInt8) : Prop :=
  ∃ F, Wr wr F a lk ∧ (∀ k, F k → w.heap.size ≤ k) ∧ Bs wr (fun k => (w.heap.size ≤ k ∧ ¬ F k) ∧ k < wr.heap.size) (.slice A n c) lk ∧ Same w wr
theorem LaidAt.step {w wr w1 w2 w3 : World} {F : Nat → Prop} {a : Nat} {A' : Option Addr} {c' : Nat} {lk x l2 : List UInt8} (hF : ∀ k, F k → w.heap.size ≤ k) (hs : Same w wr)
    (hp : WrPost wr w1 F a (lk ++ x)) (hsx : Same w1 w2) (hq : Hid (lk ++ x = l2)) (hj : Fresh w2 w3 (.slice A' l2.length c') l2) : LaidAt w w3 a A' l2.length c' l2 := by
  obtain ⟨F', hW, hc, hn⟩ := hp
  rw [hq.out] at hW
  have hlt : Lt F' w1 := by obtain ⟨v, h⟩ := hW; exact h.lt
  have h1 : Same w w1 := hs.since hc hF
  have hz := h1.size
  have hz2 := hsx.size
  have hFn : ∀ k, F' k → w.heap.size ≤ k := fun k hk => by
    have := hs.size
    rcases hn k hk with h | h
    · exact hF k h
    · omega
  refine ⟨F', (hW.keep hsx (fun _ _ h => h)).keep hj.2 (fun _ _ h => h), hFn, ?_, (h1.trans hsx).trans hj.2⟩
  exact hj.bs.mono (fun k hk h => ⟨⟨by omega, fun hF' => by have := hlt k hF'; omega⟩, hk⟩)
theorem LaidAt.bs_after {wr w1 : World} {F : Nat → Prop} {w : World} {a : Nat} {v : Value} {lk x : List UInt8} (hb : Bs wr (fun k => (w.heap.size ≤ k ∧ ¬ F k) ∧ k < wr.heap.size) v lk) (hp : WrPost wr w1 F a (lk ++ x)) : Bs w1 (fun k => w.heap.size ≤ k) v lk := by
  obtain ⟨F', hW, hc, hn⟩ := hp
  exact (hb.keep hc (fun k hk h => hk.1.2 h)).mono (fun k _ hk => hk.1.1)

theorem join_s (A B : Option Addr) (n m c1 c2 : Nat) (la lb l : List UInt8) (F G : Nat → Prop) (w : World) (ha : Bs w F (.slice A n c1) la) (hb : Bs w G (.slice B m c2) lb) (hl : la.length + lb.length ≤ 140737488355328) (hq : Hid (la ++ lb = l)) :
    Calls Try.prog 12 #[.slice A n c1, .slice B m c2] w fun e w' => ∃ A' c', e = .returned (.slice A' l.length c') ∧ Fresh w w' (.slice A' l.length c') l :=
  (join_any _ _ la lb F G w ha hb hl).mono fun en w' ⟨v, h1, h2⟩ => by
    rw [hq.out] at h2
    obtain ⟨A, c, rfl⟩ := h2.form
    exact ⟨A, c, h1, h2⟩

/-- What laid answers: two slices of the same bytes. -/
def LaidPost (w : World) (L : List UInt8) (en : Ending) (w' : World) : Prop :=
  ∃ A c A' c', en = .returned (.tuple #[.slice A L.length c, .slice A' L.length c']) ∧ Bs w' (fun k => w.heap.size ≤ k) (.slice A L.length c) L ∧ Bs w' (fun k => w.heap.size ≤ k) (.slice A' L.length c') L ∧ Same w w'

set_option maxHeartbeats 3200000 in
set_option maxRecDepth 100000 in
theorem laid_any (v : Value) (l : List It) (w : World) (h : Its w v l) (hsm : SmallL l) :
    Calls Try.prog 28 #[v] w (LaidPost w (layK l l.length)) := by
  obtain ⟨A, c, hv, hlc, hcm, -, -⟩ := id h
  subst hv
  have hl30 := hsm.2
  have HSM := Lib.hid hsm.1
  clear hsm
  go_enter Try.func28, Try.ntmps28
  go_wp2_with fail
  go_loopg [5, 6] l.length (fun gk p i wr => ∃ k A5 c5, i = .int .i64 (k : Nat) ∧ k + gk = l.length ∧ p = .slice A5 (layK l k).length c5 ∧ (layK l k).length ≤ 70 * k ∧ LaidAt w wr w.heap.size A5 (layK l k).length c5 (layK l k))
  case atStart =>
    have e0 := layK_zero l
    refine ⟨0, none, 0, rfl, by omega, by rw [e0]; rfl, by rw [e0]; simp, ?_⟩
    rw [e0]
    exact ⟨_, Wr.new w, fun k hk => by omega, Bs.nil_ _ _, Chg.alloc_ _ _ _⟩
  case round =>
    obtain ⟨k, A5, c5, rfl, hk, rfl, hlen, hL⟩ := hrel
    obtain ⟨F, hW, hF, hb, hs⟩ := hL
    by_cases hg : 0 < gk
    · have hkl : k < l.length := by omega
      have hk1 : (k : Int) < (l.length : Int) := by omega
      obtain ⟨b, o, c', hv, -, -, x1, x2, x3, y1, y2, y3, y4⟩ := h.item hkl
      injection hv with e1 e2 e3
      subst e1; subst e3
      clear e2
      have hNext := layK_succ l k hkl
      have hsz := HSM.out k hkl
      generalize l[k].kind = kd at *
      generalize l[k].n = n at *
      generalize l[k].s = s at *
      have hln := itB_len kd n s y3 y4 hsz
      obtain ⟨l2, HL2⟩ : ∃ l2, Hid (layK l (k + 1) = l2) := ⟨_, Lib.hid rfl⟩
      have HN : Hid (l2 = layK l k ++ itB kd n s) := by show _ = _; rw [← HL2.out]; exact hNext
      clear hNext
      have hl2 : l2.length ≤ 70 * (k + 1) := by rw [HN.out, List.length_append]; omega
      generalize layK l k = lk at *
      have X1 := Lib.hid x1
      have X2 := Lib.hid x2
      have X3 := Lib.hid x3
      clear x1 x2 x3
      have hlk : lk.length ≤ 2100 := by omega
      have hw64 : -9223372036854775808 ≤ wrap64 n ∧ wrap64 n ≤ 9223372036854775807 := by unfold wrap64; omega
      by_cases hx : kd % 3 = 0
      · have hx3 : (kd % 3 == 0) = true := by simp [hx]
        have hx2 := Lib.hid hx
        clear hx
        have HQ : Hid (lk ++ numB n.toNat = l2) := by show _ = _; rw [HN.out]; unfold itB; rw [if_pos hx2.out]
        have z1 := hs.cell' X1.out (fun h => h)
        have z2 := hs.cell' X2.out (fun h => h)
        have z3 := hs.cell' X3.out (fun h => h)
        have hlens : lk.length + (numB n.toNat).length ≤ 140737488355328 := by
          have e9 : (lk ++ numB n.toNat).length = l2.length := by rw [HQ.out]
          rw [List.length_append] at e9
          omega
        go_wp2_with fail
        refine (wnum_any _ n y3 y4 F lk _ hW (by omega)).mono ?_
        rintro _ w1 ⟨rfl, hP⟩
        have hs1 : Same w w1 := by obtain ⟨F', hW', hc, hn⟩ := hP; exact hs.since hc hF
        have hb1 := LaidAt.bs_after (w := w) hb hP
        clear z1 z2 z3
        have z1 := hs1.cell' X1.out (fun h => h)
        have z2 := hs1.cell' X2.out (fun h => h)
        have z3 := hs1.cell' X3.out (fun h => h)
        go_wp2_with fail
        refine (rnum_any n y3 y4 _).mono ?_
        rintro _ w2 ⟨v2, rfl, R2⟩
        obtain ⟨A2, c2, hv2⟩ := R2.form
        subst hv2
        go_wp2_with fail
        refine (join_s _ _ _ _ _ _ lk _ l2 _ _ w2 (hb1.same R2.2) R2.bs hlens HQ).mono ?_
        rintro _ w3 ⟨A3, c3, rfl, R3⟩
        have hAt := Lib.hid (LaidAt.step (w := w) hF hs hP R2.2 HQ R3)
        clear hP hs1 hb1 z1 z2 z3 R2 R3
        go_wp2_with fail
        go_roundg (gk - 1)
        case measure => omega
        case rel => exact ⟨k + 1, A3, c3, by go_num, by omega, by rw [HL2.out], by rw [HL2.out]; exact hl2, by rw [HL2.out]; exact hAt.out⟩
      · have hx3 : (kd % 3 == 0) = false := by simp [hx]
        have hx2 := Lib.hid hx
        clear hx
        by_cases hy : kd % 3 = 1
        · have hx5 : (kd % 3 == 1) = true := by simp [hy]
          have hx4 := Lib.hid hy
          clear hy
          have HQ : Hid (lk ++ intB (wrap64 n) = l2) := by show _ = _; rw [HN.out]; unfold itB; rw [if_neg hx2.out, if_pos hx4.out]
          have z1 := hs.cell' X1.out (fun h => h)
          have z2 := hs.cell' X2.out (fun h => h)
          have z3 := hs.cell' X3.out (fun h => h)
          have hlens : lk.length + (intB (wrap64 n)).length ≤ 140737488355328 := by
            have e9 : (lk ++ intB (wrap64 n)).length = l2.length := by rw [HQ.out]
            rw [List.length_append] at e9
            omega
          go_wp2_with fail
          refine (wint_any _ (wrap64 n) hw64.1 hw64.2 F lk _ hW (by omega)).mono ?_
          rintro _ w1 ⟨rfl, hP⟩
          have hs1 : Same w w1 := by obtain ⟨F', hW', hc, hn⟩ := hP; exact hs.since hc hF
          have hb1 := LaidAt.bs_after (w := w) hb hP
          clear z1 z2 z3
          have z1 := hs1.cell' X1.out (fun h => h)
          have z2 := hs1.cell' X2.out (fun h => h)
          have z3 := hs1.cell' X3.out (fun h => h)
          go_wp2_with fail
          refine (rint_any (wrap64 n) hw64.1 hw64.2 _).mono ?_
          rintro _ w2 ⟨v2, rfl, R2⟩
          obtain ⟨A2, c2, hv2⟩ := R2.form
          subst hv2
          go_wp2_with fail
          refine (join_s _ _ _ _ _ _ lk _ l2 _ _ w2 (hb1.same R2.2) R2.bs hlens HQ).mono ?_
          rintro _ w3 ⟨A3, c3, rfl, R3⟩
          have hAt := Lib.hid (LaidAt.step (w := w) hF hs hP R2.2 HQ R3)
          clear hP hs1 hb1 z1 z2 z3 R2 R3
          go_wp2_with fail
          go_roundg (gk - 1)
          case measure => omega
          case rel => exact ⟨k + 1, A3, c3, by go_num, by omega, by rw [HL2.out], by rw [HL2.out]; exact hl2, by rw [HL2.out]; exact hAt.out⟩
        · have hx5 : (kd % 3 == 1) = false := by simp [hy]
          have hx4 := Lib.hid hy
          clear hy
          have HQ : Hid (lk ++ textB s.data.toList = l2) := by show _ = _; rw [HN.out]; unfold itB; rw [if_neg hx2.out, if_neg hx4.out]
          have z1 := hs.cell' X1.out (fun h => h)
          have z2 := hs.cell' X2.out (fun h => h)
          have z3 := hs.cell' X3.out (fun h => h)
          have hlens : lk.length + (textB s.data.toList).length ≤ 140737488355328 := by
            have e9 : (lk ++ textB s.data.toList).length = l2.length := by rw [HQ.out]
            rw [List.length_append] at e9
            omega
          go_wp2_with fail
          refine (wtext_any _ s F lk _ hW (by omega) (by omega)).mono ?_
          rintro _ w1 ⟨rfl, hP⟩
          have hs1 : Same w w1 := by obtain ⟨F', hW', hc, hn⟩ := hP; exact hs.since hc hF
          have hb1 := LaidAt.bs_after (w := w) hb hP
          clear z1 z2 z3
          have z1 := hs1.cell' X1.out (fun h => h)
          have z2 := hs1.cell' X2.out (fun h => h)
          have z3 := hs1.cell' X3.out (fun h => h)
          go_wp2_with fail
          refine (rtext_any s (by omega) _).mono ?_
          rintro _ w2 ⟨v2, rfl, R2⟩
          obtain ⟨A2, c2, hv2⟩ := R2.form
          subst hv2
          go_wp2_with fail
          refine (join_s _ _ _ _ _ _ lk _ l2 _ _ w2 (hb1.same R2.2) R2.bs hlens HQ).mono ?_
          rintro _ w3 ⟨A3, c3, rfl, R3⟩
          have hAt := Lib.hid (LaidAt.step (w := w) hF hs hP R2.2 HQ R3)
          clear hP hs1 hb1 z1 z2 z3 R2 R3
          go_wp2_with fail
          go_roundg (gk - 1)
          case measure => omega
          case rel => exact ⟨k + 1, A3, c3, by go_num, by omega, by rw [HL2.out], by rw [HL2.out]; exact hl2, by rw [HL2.out]; exact hAt.out⟩
    · have hk1 : (l.length : Int) ≤ (k : Int) := by omega
      have hkl : k = l.length := by omega
      subst hkl
      generalize layK l l.length = lk at *
      have hb1 := Lib.hid (hb.mono (G := fun k => w.heap.size ≤ k) (fun k _ h => h.1.1))
      go_wp2_with fail
      refine (wbytes_any _ F lk _ hW (by omega)).mono ?_
      rintro _ w1 ⟨v1, rfl, R1⟩
      obtain ⟨A1, c1, hv1⟩ := R1.form
      subst hv1
      go_wp2_with fail
      refine bodyPost_ret (v := .tuple #[.slice A1 lk.length c1, .slice A5 lk.length c5]) (by simp [results, Try.results28, go_sem]) rfl ?_
      refine ⟨A1, c1, A5, c5, rfl, R1.bs.mono (fun k _ h => by have := hs.size; omega), hb1.out.same R1.2, hs.trans R1.2⟩
end Go.Proofs.Ytahfnbgbjphngaa
