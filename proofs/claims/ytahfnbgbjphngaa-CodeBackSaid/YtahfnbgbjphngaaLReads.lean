/- The walk of carrierlaw02.CodeReads: any bytes, read by any calls. -/
import Derived.Test.YtahfnbgbjphngaaLOwn
import Derived.Test.YtahfnbgbjphngaaLTexts
import Derived.Deep.LoopGhost
import Derived.Deep.DeepCutAuto
import Derived.Deep.CutBlock
import Derived.OpenShut
namespace Go.Proofs.Ytahfnbgbjphngaa
open Go Go.RowKit Go.Proofs

theorem rint_is (a : Nat) (F : Nat → Prop) (l : List UInt8) (e : Int) (w : World) (h : Rd w F a l e) (n : Int) (l1 : List UInt8) (e1 : Int) (hq : readInt l e = (n, l1, e1)) :
    Calls Try.prog 24 #[.pointer (some ⟨a, 0, none⟩)] w fun en w' => en = .returned (.int .i64 n) ∧ RdPost w w' F a l1 e1 :=
  (rint_any' a F l e w h).mono fun e w' h => by rw [hq] at h; exact h
theorem pint_is (v : Value) (F : Nat → Prop) (l : List UInt8) (e : Int) (w : World) (h : Bs w F v l) (n : Int) (l1 : List UInt8) (e1 : Int) (hq : readInt l e = (n, l1, e1)) :
    Calls Try.prog 23 #[rdr v e] w fun en w' => ∃ v', en = .returned (.tuple #[.int .i64 n, rdr v' e1]) ∧ Bs w' F v' l1 ∧ Same w w' :=
  (pint_any v F l e w h).mono fun en w' h => by rw [hq] at h; exact h
theorem ptext_is (v : Value) (F : Nat → Prop) (l : List UInt8) (e most : Int) (w : World) (h : Bs w F v l) (hl : l.length ≤ 140737488355328) (hm0 : -9223372036854775808 ≤ most) (hm1 : most ≤ 9223372036854775807)
    (t : List UInt8) (l1 : List UInt8) (e1 : Int) (hq : readText l e most = (t, l1, e1)) :
    Calls Try.prog 20 #[rdr v e, .int .i64 most] w fun en w' => ∃ v', en = .returned (.tuple #[.string ⟨t.toArray⟩, rdr v' e1]) ∧ Bs w' F v' l1 ∧ Same w w' :=
  (ptext_any v F l e most w h hl hm0 hm1).mono fun en w' h => by rw [hq] at h; exact h

theorem readInt_len (l : List UInt8) (e : Int) : (readInt l e).2.1.length ≤ l.length := readNum_len l e
theorem readText_len (l : List UInt8) (e most : Int) : (readText l e most).2.1.length ≤ l.length := by
  have h := readNum_len l e
  unfold readText rdText
  split
  · exact h
  · split
    · simp
    · split
      · simp
      · simp; omega

/-- Where the loop stands: the reader, and the document's one, in block M. -/
def At (w wr : World) (F : Nat → Prop) (a M : Nat) (l : List UInt8) (e : Int) : Prop :=
  ∃ A c, Rd wr F a l e ∧ wr.cell? ⟨M, 0, none⟩ = some (.slice A l.length c) ∧ wr.cell? ⟨M, 1, none⟩ = some (.int .i64 e) ∧ wr.frozen? ⟨M, 0, none⟩ = false ∧ wr.frozen? ⟨M, 1, none⟩ = false ∧ Bs wr (fun k => k < w.heap.size) (.slice A l.length c) l ∧ l.length ≤ 120 ∧ Same w wr
def AtSome (w wr : World) (F : Nat → Prop) (a M : Nat) : Prop := ∃ l e, At w wr F a M l e

/-- Ahead of the reader's own call: what the document's one answers lies in block N. -/
structure Ahead (w W : World) (F : Nat → Prop) (a M N : Nat) (l : List UInt8) (e : Int) (A : Option Addr) (c : Nat) (l1 : List UInt8) (e1 : Int) : Prop where
  rd : Rd W F a l e
  same : Same w W
  bs : Bs W (fun k => k < w.heap.size) (.slice A l1.length c) l1
  m0 : ∃ v, W.cell? ⟨M, 0, none⟩ = some v
  m1 : ∃ v, W.cell? ⟨M, 1, none⟩ = some v
  f0 : W.frozen? ⟨M, 0, none⟩ = false
  f1 : W.frozen? ⟨M, 1, none⟩ = false
  n0 : W.cell? ⟨N, 0, none⟩ = some (.slice A l1.length c)
  n1 : W.cell? ⟨N, 1, none⟩ = some (.int .i64 e1)
  ne : ¬ M = N
  na : ¬ N = a

theorem Ahead.make {w wr w5 : World} {F : Nat → Prop} {a M : Nat} {l l1 : List UInt8} {e e1 : Int} {A A5 : Option Addr} {c cap5 : Nat} {v0 v1 : Value} (hR : Rd wr F a l e) (c0 : wr.cell? ⟨M, 0, none⟩ = some v0) (c1 : wr.cell? ⟨M, 1, none⟩ = some v1)
    (f0 : wr.frozen? ⟨M, 0, none⟩ = false) (f1 : wr.frozen? ⟨M, 1, none⟩ = false) (hsw : Same w wr) (hs5 : Same wr w5) (hb5 : Bs w5 (fun k => k < w.heap.size) (.slice A5 l1.length cap5) l1) :
    Ahead w (w5.alloc (.cells #[.slice A5 l1.length cap5, .int .i64 e1] 35)) F a M w5.heap.size l e A5 cap5 l1 e1 := by
  have hc : Same w5 (w5.alloc (.cells #[.slice A5 l1.length cap5, .int .i64 e1] 35)) := Chg.alloc_ _ _ _
  have hR5 := hR.keep hs5 (fun _ _ h => h)
  have c0' := hs5.cell' c0 (fun h => h)
  have c1' := hs5.cell' c1 (fun h => h)
  have hMlt : M < w5.heap.size := cell_lt c0'
  obtain ⟨d0, d1, -, -⟩ := two_cells (heap_alloc_new w5 (.cells #[.slice A5 l1.length cap5, .int .i64 e1] 35))
  have haw : a < w5.heap.size := by obtain ⟨v, h⟩ := hR5; exact h.lt _ h.mine
  exact ⟨hR5.keep hc (fun _ _ h => h), (hsw.trans hs5).trans hc, hb5.same hc, ⟨_, hc.cell' c0' (fun h => h)⟩, ⟨_, hc.cell' c1' (fun h => h)⟩,
    (hc.frozen (p := ⟨M, 0, none⟩) hMlt (fun h => h)).trans ((hs5.frozen (p := ⟨M, 0, none⟩) (cell_lt c0) (fun h => h)).trans f0),
    (hc.frozen (p := ⟨M, 1, none⟩) hMlt (fun h => h)).trans ((hs5.frozen (p := ⟨M, 1, none⟩) (cell_lt c1) (fun h => h)).trans f1), d0, d1, by omega, by omega⟩

theorem Chg.undrew {S : Nat → Prop} {w w' : World} (h : Chg S w.drew w') : Chg S w w' := ⟨h.os, h.tape, h.output, h.size, h.block⟩
theorem At.keep {w wr w' : World} {F : Nat → Prop} {a M : Nat} {l : List UInt8} {e : Int} (h : At w wr F a M l e) (hs : Same wr w') : At w w' F a M l e := by
  obtain ⟨A, c, hR, c0, c1, f0, f1, hb, hl, hsw⟩ := h
  exact ⟨A, c, hR.keep hs (fun _ _ h => h), hs.cell' c0 (fun h => h), hs.cell' c1 (fun h => h), (hs.frozen (p := ⟨M, 0, none⟩) (cell_lt c0) (fun h => h)).trans f0, (hs.frozen (p := ⟨M, 1, none⟩) (cell_lt c1) (fun h => h)).trans f1, hb.same hs, hl, hsw.trans hs⟩

theorem Ahead.keepN {w W : World} {F : Nat → Prop} {a M N : Nat} {l l1 : List UInt8} {e e1 : Int} {A : Option Addr} {c : Nat} (h : Ahead w W F a M N l e A c l1 e1) {w7 : World} {x y : Value} (h0 : w7.cell? ⟨N, 0, none⟩ = some x) (h1 : w7.cell? ⟨N, 1, none⟩ = some y) (u v : Value) :
    ((w7.setCell ⟨M, 0, none⟩ u).setCell ⟨M, 1, none⟩ v).cell? ⟨N, 0, none⟩ = some x ∧ ((w7.setCell ⟨M, 0, none⟩ u).setCell ⟨M, 1, none⟩ v).cell? ⟨N, 1, none⟩ = some y := by
  rw [World.cell?_setCell_far _ ⟨M, 1, none⟩ ⟨N, 0, none⟩ _ h.ne, World.cell?_setCell_far _ ⟨M, 0, none⟩ ⟨N, 0, none⟩ _ h.ne, World.cell?_setCell_far _ ⟨M, 1, none⟩ ⟨N, 1, none⟩ _ h.ne, World.cell?_setCell_far _ ⟨M, 0, none⟩ ⟨N, 1, none⟩ _ h.ne]
  exact ⟨h0, h1⟩

theorem Ahead.done {w W w7 : World} {F : Nat → Prop} {a M N : Nat} {l l1 : List UInt8} {e e1 : Int} {A : Option Addr} {c : Nat} (h : Ahead w W F a M N l e A c l1 e1) (hR : Rd w7 F a l1 e1) (hc : Chg (fun k => k = a) W w7)
    (hMF : ¬ F M) (hF : ∀ k, F k → w.heap.size ≤ k) (hM : w.heap.size ≤ M) (hl : l1.length ≤ 120) :
    At w ((w7.setCell ⟨M, 0, none⟩ (.slice A l1.length c)).setCell ⟨M, 1, none⟩ (.int .i64 e1)) F a M l1 e1 := by
  have haF : F a := hR.mine
  have hMa : ¬ M = a := fun e => hMF (e ▸ haF)
  obtain ⟨x0, hx0⟩ := h.m0
  obtain ⟨x1, hx1⟩ := h.m1
  have h70 := hc.cell' hx0 hMa
  have h71 := hc.cell' hx1 hMa
  have g0 := (hc.frozen (p := ⟨M, 0, none⟩) (cell_lt hx0) hMa).trans h.f0
  have g1 := (hc.frozen (p := ⟨M, 1, none⟩) (cell_lt hx1) hMa).trans h.f1
  have hcM : Chg (fun k => k = M) w7 ((w7.setCell ⟨M, 0, none⟩ (.slice A l1.length c)).setCell ⟨M, 1, none⟩ (.int .i64 e1)) :=
    Chg.setCell (S := fun k => k = M) (Chg.setCell (S := fun k => k = M) (Chg.refl _ w7) (p := ⟨M, 0, none⟩) (fun _ => rfl) _) (p := ⟨M, 1, none⟩) (fun _ => rfl) _
  have hs7 : Same w w7 := Chg.since h.same hc (fun k hk => by subst hk; exact hF k haF)
  refine ⟨A, c, hR.keep hcM (fun k hk e => hMF (e ▸ hk)), ?_, ?_, ?_, ?_, ?_, hl, Chg.since hs7 hcM (fun k hk => by omega)⟩
  · rw [World.cell?_setCell_other _ _ _ _ (by simp)]; exact World.cell?_setCell_same _ _ _ h70
  · exact World.cell?_setCell_same _ _ _ (u := x1) (by rw [World.cell?_setCell_other _ _ _ _ (by simp)]; exact h71)
  · simpa using g0
  · simpa using g1
  · exact (h.bs.keep hc (fun k hk e => by have := hF a haF; omega)).keep hcM (fun k hk e => by omega)

set_option maxHeartbeats 4000000 in
set_option maxRecDepth 100000 in
theorem codeReads_walk (v0 v1 v2 : Value) (p ks : List UInt8) (F0 F1 : Nat → Prop) (w : World) (hp : Bs w F0 v0 p) (hk : Bs w F1 v1 ks) 
    (A2 : Option Addr) (n2 c2 : Nat) (hv2 : v2 = .slice A2 n2 c2) (hn2 : n2 ≤ 9223372036854775807) (hm : 0 < n2 → ∃ b o, A2 = some ⟨b, o, none⟩ ∧ ∀ i, i < n2 → ∃ z, w.cell? ⟨b, o + i, none⟩ = some (.int .i8 z) ∧ -128 ≤ z ∧ z ≤ 127) :
    Calls Try.prog 6 #[v0, v1, v2] w fun e w' => e = .returned (.bool true) ∧ Same w w' := by
  subst hv2
  obtain ⟨A0, cap0, hv, -, -, -⟩ := id hp
  subst hv
  obtain ⟨A1, cap1, hv, -, -, -⟩ := id hk
  subst hv
  by_cases hs : p.length ≤ 120 ∧ ks.length ≤ 40
  · have hs1 : (p.length : Int) ≤ 120 := by omega
    have hs2 : (ks.length : Int) ≤ 40 := by omega
    have hpl : p.length ≤ 120 := hs.1
    clear hs
    have hp' := (hp.mono (G := fun k => k < w.heap.size) (fun k h _ => h))
    go_enter Try.func6, Try.ntmps6
    go_wp2_with fail
    refine (three_any _).mono ?_
    rintro _ w3 ⟨rfl, hs3⟩
    go_wp2_with fail
    refine (newr_any _ p _ w3 (hp'.same hs3) (by omega)).mono ?_
    rintro _ w4 ⟨a, F, rfl, hR4, hs4, hN4⟩
    have hw4 := hs3.trans hs4
    have hp4 := hp'.same hw4
    have hNa : ∀ k, F k → w.heap.size ≤ k ∧ k < w4.heap.size := fun k hk => ⟨by have := hN4 k hk; have := hs3.size; omega, by obtain ⟨v, h⟩ := hR4; exact h.lt k hk⟩
    have haF : F a := hR4.mine
    clear hs3 hs4 hN4 hp'
    go_wp2_with fail
    have h0 : At w (w4.alloc (.cells #[.slice A0 p.length cap0, .int .i64 0] 35)) F a w4.heap.size p 0 := by
      obtain ⟨c0, c1, f0, f1⟩ := two_cells (heap_alloc_new w4 (.cells #[.slice A0 p.length cap0, .int .i64 0] 35))
      exact ⟨A0, cap0, hR4.keep (Chg.alloc_ (fun _ => False) _ _) (fun _ _ h => h), c0, c1, f0, f1, hp4.alloc _, hpl, hw4.alloc _⟩
    have hMw : w.heap.size ≤ w4.heap.size := hw4.size
    generalize w4.heap.size = M at *
    clear hR4 hp4 hw4
    go_loopg [9] ks.length (fun gk i wr => ∃ k : Nat, i = .int .i64 k ∧ k + gk = ks.length ∧ AtSome w wr F a M)
    case atStart => exact ⟨0, rfl, by omega, p, 0, h0⟩
    case round =>
      obtain ⟨k, rfl, hk', l, e, A, c, hR, c0, c1, f0, f1, hb, hl, hsw⟩ := hrel
      clear h0
      by_cases hg : 0 < gk
      · have hkl : k < ks.length := by omega
        have hk1 : (k : Int) < (ks.length : Int) := by omega
        obtain ⟨A1', cap1', hv, hlc, hcm, hx⟩ := hk.same hsw
        injection hv with e1 e2 e3
        subst e1; subst e3
        obtain ⟨b1, o1, rfl, -, hxk⟩ := hx (by omega)
        obtain ⟨x, hx, hx0, hx1⟩ : ∃ x : Int, wr.cell? ⟨b1, o1 + k, none⟩ = some (.int .u8 x) ∧ 0 ≤ x ∧ x ≤ 255 := ⟨_, hxk k ks[k] (List.getElem?_eq_getElem hkl), by omega, by have := ks[k].toNat_lt; omega⟩
        clear e2 hxk
        unfold maxLen at hcm
        go_upto_block 2 with fail
        go_cut [10] (fun v wc => v = .bool true ∧ AtSome w wc F a M)
        case first =>
          by_cases hx2 : x % 3 = 0
          · have hx3 : (x % 3 == 0) = true := by simp [hx2]
            clear hx2
            obtain ⟨q1, l1, e1, HQ⟩ : ∃ n1 l1 e1, Hid (readNum l e = (n1, l1, e1)) := ⟨_, _, _, rfl⟩
            have hl1 : l1.length ≤ 120 := by have h := readNum_len l e; rw [HQ.out] at h; exact Nat.le_trans h hl
            go_wp2_with fail
            refine (pnum_is _ _ l e wr hb q1 l1 e1 HQ.out).mono ?_
            rintro _ w5 ⟨v5, rfl, hb5, hs5⟩
            obtain ⟨A5, cap5, hv, -, -, -⟩ := id hb5
            subst hv
            have c0' := hs5.cell' c0 (fun h => h)
            have c1' := hs5.cell' c1 (fun h => h)
            go_wp2_with fail
            have hMF : ¬ F M := fun h => by have := hNa M h; omega
            have hMa : ¬ M = a := fun e => hMF (e ▸ haF)
            have hA := Ahead.make (A := A) (c := c) (e1 := e1) hR c0 c1 f0 f1 hsw hs5 hb5
            generalize w5.alloc (.cells #[.slice A5 l1.length cap5, .int .i64 e1] 35) = W at *
            generalize w5.heap.size = N at *
            have n0 := hA.n0
            have n1 := hA.n1
            have g0 := hA.f0
            have g1 := hA.f1
            obtain ⟨x0, m0⟩ := hA.m0
            obtain ⟨x1, m1⟩ := hA.m1
            clear c0 c1 f0 f1 c0' c1' hb5 hs5 hsw hR hx hb
            go_region_held3 (fun w' => w'.cell? ⟨N, 0, none⟩ = some (.slice A5 l1.length cap5) ∧ w'.cell? ⟨N, 1, none⟩ = some (.int .i64 e1)) (first | go_keep | exact hA.keepN k0 k1 _ _) (first | (go_at_call 17; refine (rnum_is a F l e _ hA.rd.drew q1 l1 e1 HQ.out).mono ?_; rintro _ w7 ⟨rfl, hR7, hc7⟩; have k0 := hc7.cell' n0 hA.na; have k1 := hc7.cell' n1 hA.na; have km0 := hc7.cell' m0 hMa; have km1 := hc7.cell' m1 hMa; have kf0 := (hc7.frozen (p := ⟨M, 0, none⟩) (cell_lt m0) hMa).trans g0; have kf1 := (hc7.frozen (p := ⟨M, 1, none⟩) (cell_lt m1) hMa).trans g1))
            all_goals
              go_wp2_with fail
              go_meet
              case rel => exact ⟨rfl, l1, e1, hA.done hR7 hc7.undrew hMF (fun k hk => (hNa k hk).1) hMw hl1⟩
          · have hx3 : (x % 3 == 0) = false := by simp [hx2]
            by_cases hx4 : x % 3 = 1
            · have hx5 : (x % 3 == 1) = true := by simp [hx4]
              clear hx2 hx4
              obtain ⟨q1, l1, e1, HQ⟩ : ∃ n1 l1 e1, Hid (readInt l e = (n1, l1, e1)) := ⟨_, _, _, rfl⟩
              have hl1 : l1.length ≤ 120 := by have h := readInt_len l e; rw [HQ.out] at h; exact Nat.le_trans h hl
              go_wp2_with fail
              refine (pint_is _ _ l e wr hb q1 l1 e1 HQ.out).mono ?_
              rintro _ w5 ⟨v5, rfl, hb5, hs5⟩
              obtain ⟨A5, cap5, hv, -, -, -⟩ := id hb5
              subst hv
              have c0' := hs5.cell' c0 (fun h => h)
              have c1' := hs5.cell' c1 (fun h => h)
              go_wp2_with fail
              have hMF : ¬ F M := fun h => by have := hNa M h; omega
              have hMa : ¬ M = a := fun e => hMF (e ▸ haF)
              have hA := Ahead.make (A := A) (c := c) (e1 := e1) hR c0 c1 f0 f1 hsw hs5 hb5
              generalize w5.alloc (.cells #[.slice A5 l1.length cap5, .int .i64 e1] 35) = W at *
              generalize w5.heap.size = N at *
              have n0 := hA.n0
              have n1 := hA.n1
              have g0 := hA.f0
              have g1 := hA.f1
              obtain ⟨x0, m0⟩ := hA.m0
              obtain ⟨x1, m1⟩ := hA.m1
              clear c0 c1 f0 f1 c0' c1' hb5 hs5 hsw hR hx hb
              go_region_held3 (fun w' => w'.cell? ⟨N, 0, none⟩ = some (.slice A5 l1.length cap5) ∧ w'.cell? ⟨N, 1, none⟩ = some (.int .i64 e1)) (first | go_keep | exact hA.keepN k0 k1 _ _) (first | (go_at_call 24; refine (rint_is a F l e _ hA.rd.drew q1 l1 e1 HQ.out).mono ?_; rintro _ w7 ⟨rfl, hR7, hc7⟩; have k0 := hc7.cell' n0 hA.na; have k1 := hc7.cell' n1 hA.na; have km0 := hc7.cell' m0 hMa; have km1 := hc7.cell' m1 hMa; have kf0 := (hc7.frozen (p := ⟨M, 0, none⟩) (cell_lt m0) hMa).trans g0; have kf1 := (hc7.frozen (p := ⟨M, 1, none⟩) (cell_lt m1) hMa).trans g1))
              all_goals
                go_wp2_with fail
                go_meet
                case rel => exact ⟨rfl, l1, e1, hA.done hR7 hc7.undrew hMF (fun k hk => (hNa k hk).1) hMw hl1⟩
            · have hx5 : (x % 3 == 1) = false := by simp [hx4]
              clear hx2 hx4
              by_cases hkn : k < n2
              · have hkn' : (k : Int) < (n2 : Int) := by omega
                obtain ⟨bm, om, rfl, hmz⟩ := hm (by omega)
                obtain ⟨z, hz, hz0, hz1⟩ := hmz k hkn
                have hz' := hsw.cell' hz (fun h => h)
                clear hmz hz hm
                obtain ⟨q1, l1, e1, HQ⟩ : ∃ n1 l1 e1, Hid (readText l e z = (n1, l1, e1)) := ⟨_, _, _, rfl⟩
                have hl1 : l1.length ≤ 120 := by have h := readText_len l e z; rw [HQ.out] at h; exact Nat.le_trans h hl
                go_wp2_with fail
                refine (ptext_is _ _ l e z wr hb (by omega) (by omega) (by omega) q1 l1 e1 HQ.out).mono ?_
                rintro _ w5 ⟨v5, rfl, hb5, hs5⟩
                obtain ⟨A5, cap5, hv, -, -, -⟩ := id hb5
                subst hv
                have c0' := hs5.cell' c0 (fun h => h)
                have c1' := hs5.cell' c1 (fun h => h)
                go_wp2_with fail
                have hMF : ¬ F M := fun h => by have := hNa M h; omega
                have hMa : ¬ M = a := fun e => hMF (e ▸ haF)
                have hA := Ahead.make (A := A) (c := c) (e1 := e1) hR c0 c1 f0 f1 hsw hs5 hb5
                generalize w5.alloc (.cells #[.slice A5 l1.length cap5, .int .i64 e1] 35) = W at *
                generalize w5.heap.size = N at *
                have n0 := hA.n0
                have n1 := hA.n1
                have g0 := hA.f0
                have g1 := hA.f1
                obtain ⟨x0, m0⟩ := hA.m0
                obtain ⟨x1, m1⟩ := hA.m1
                clear c0 c1 f0 f1 c0' c1' hb5 hs5 hsw hR hx hb
                have HC := Lib.hid (fun W hW => rtext_is a F l e z W hW (by omega) (by omega) (by omega) q1 l1 e1 HQ.out)
                go_region_held3 (fun w' => w'.cell? ⟨N, 0, none⟩ = some (.slice A5 l1.length cap5) ∧ w'.cell? ⟨N, 1, none⟩ = some (.int .i64 e1)) (first | go_keep | exact hA.keepN k0 k1 _ _) (first | (go_at_call 21; refine (HC.out _ hA.rd.drew).mono ?_; rintro _ w7 ⟨rfl, hR7, hc7⟩; have k0 := hc7.cell' n0 hA.na; have k1 := hc7.cell' n1 hA.na; have km0 := hc7.cell' m0 hMa; have km1 := hc7.cell' m1 hMa; have kf0 := (hc7.frozen (p := ⟨M, 0, none⟩) (cell_lt m0) hMa).trans g0; have kf1 := (hc7.frozen (p := ⟨M, 1, none⟩) (cell_lt m1) hMa).trans g1))
                all_goals
                  go_wp2_with fail
                  go_meet
                  case rel => exact ⟨rfl, l1, e1, hA.done hR7 hc7.undrew hMF (fun k hk => (hNa k hk).1) hMw hl1⟩
              · have hkn' : (n2 : Int) ≤ (k : Int) := by omega
                clear hm
                obtain ⟨q1, l1, e1, HQ⟩ : ∃ n1 l1 e1, Hid (readText l e 9 = (n1, l1, e1)) := ⟨_, _, _, rfl⟩
                have hl1 : l1.length ≤ 120 := by have h := readText_len l e 9; rw [HQ.out] at h; exact Nat.le_trans h hl
                go_wp2_with fail
                refine (ptext_is _ _ l e 9 wr hb (by omega) (by omega) (by omega) q1 l1 e1 HQ.out).mono ?_
                rintro _ w5 ⟨v5, rfl, hb5, hs5⟩
                obtain ⟨A5, cap5, hv, -, -, -⟩ := id hb5
                subst hv
                have c0' := hs5.cell' c0 (fun h => h)
                have c1' := hs5.cell' c1 (fun h => h)
                go_wp2_with fail
                have hMF : ¬ F M := fun h => by have := hNa M h; omega
                have hMa : ¬ M = a := fun e => hMF (e ▸ haF)
                have hA := Ahead.make (A := A) (c := c) (e1 := e1) hR c0 c1 f0 f1 hsw hs5 hb5
                generalize w5.alloc (.cells #[.slice A5 l1.length cap5, .int .i64 e1] 35) = W at *
                generalize w5.heap.size = N at *
                have n0 := hA.n0
                have n1 := hA.n1
                have g0 := hA.f0
                have g1 := hA.f1
                obtain ⟨x0, m0⟩ := hA.m0
                obtain ⟨x1, m1⟩ := hA.m1
                clear c0 c1 f0 f1 c0' c1' hb5 hs5 hsw hR hx hb
                have HC := Lib.hid (fun W hW => rtext_is a F l e 9 W hW (by omega) (by omega) (by omega) q1 l1 e1 HQ.out)
                go_region_held3 (fun w' => w'.cell? ⟨N, 0, none⟩ = some (.slice A5 l1.length cap5) ∧ w'.cell? ⟨N, 1, none⟩ = some (.int .i64 e1)) (first | go_keep | exact hA.keepN k0 k1 _ _) (first | (go_at_call 21; refine (HC.out _ hA.rd.drew).mono ?_; rintro _ w7 ⟨rfl, hR7, hc7⟩; have k0 := hc7.cell' n0 hA.na; have k1 := hc7.cell' n1 hA.na; have km0 := hc7.cell' m0 hMa; have km1 := hc7.cell' m1 hMa; have kf0 := (hc7.frozen (p := ⟨M, 0, none⟩) (cell_lt m0) hMa).trans g0; have kf1 := (hc7.frozen (p := ⟨M, 1, none⟩) (cell_lt m1) hMa).trans g1))
                all_goals
                  go_wp2_with fail
                  go_meet
                  case rel => exact ⟨rfl, l1, e1, hA.done hR7 hc7.undrew hMF (fun k hk => (hNa k hk).1) hMw hl1⟩
        case rest =>
          obtain ⟨rfl, l7, e7, hAt⟩ := hcut
          have hAt' := hAt
          obtain ⟨A7, c7, hR7, c0', c1', f0', f1', hb7, hl7, hsw7⟩ := hAt
          clear c0 c1 f0 f1 hR hb hsw hx
          go_upto_region 21 with fail
          go_region_held3 (fun w' => w'.cell? ⟨M, 0, none⟩ = some (.slice A7 l7.length c7) ∧ w'.cell? ⟨M, 1, none⟩ = some (.int .i64 e7)) (go_keep) (first | (go_at_call 18; refine (rerr_any a F l7 e7 _ hR7.drew).mono ?_; rintro _ _ ⟨rfl, rfl⟩) | (go_at_call 22; refine (rleft_any a F l7 e7 _ hR7.drew).mono ?_; rintro _ _ ⟨rfl, rfl⟩) | (go_at_call 25; refine (rend_any a F l7 e7 _ hR7.drew).mono ?_; rintro _ _ ⟨rfl, rfl⟩) | (go_at_call 26; refine (pend_any _ _ l7 e7 _ (Bs.same hb7 (Chg.refl _ _).drew)).mono ?_; rintro _ w8 ⟨rfl, hs8⟩; have k0 := hs8.cell' c0' (fun h => h); have k1 := hs8.cell' c1' (fun h => h)))
          all_goals
            go_wp2_with fail
            go_roundg (gk - 1)
            case measure => omega
            case rel => exact ⟨k + 1, by go_num, by omega, l7, e7, hAt'.keep hs8.undrew⟩
      · have hk1 : (ks.length : Int) ≤ (k : Int) := by omega
        go_wp2_with fail
        go_ret
        exact ⟨rfl, hsw⟩
  · by_cases hs1 : p.length ≤ 120
    · have hs1' : (p.length : Int) ≤ 120 := by omega
      have hs2 : (40 : Int) < (ks.length : Int) := by omega
      clear hs
      go_enter Try.func6, Try.ntmps6
      go_wp2_with fail
      refine (three_any _).mono ?_
      rintro _ w0 ⟨rfl, hs0⟩
      go_wp2_with fail
      refine (three_any _).mono ?_
      rintro _ w1 ⟨rfl, hs1⟩
      go_wp2_with fail
      go_ret
      exact ⟨rfl, hs0.trans hs1⟩
    · have hs1' : (120 : Int) < (p.length : Int) := by omega
      clear hs
      go_enter Try.func6, Try.ntmps6
      go_wp2_with fail
      refine (three_any _).mono ?_
      rintro _ w0 ⟨rfl, hs0⟩
      go_wp2_with fail
      refine (three_any _).mono ?_
      rintro _ w1 ⟨rfl, hs1⟩
      go_wp2_with fail
      go_ret
      exact ⟨rfl, hs0.trans hs1⟩

theorem i8_of_row {w : World} {a : Option Addr} {len cap : Nat} {zs : List Int}
    (h : (a = none ∧ len = 0 ∧ cap = 0 ∧ zs = []) ∨ ∃ x, a = some x ∧ len ≤ cap ∧ cap ≤ maxLen ∧ zs.length = cap ∧ (∀ i, i < zs.length → w.cell? (x.add i) = some (.int .i8 (zs.getD i 0))) ∧ ∀ n ∈ zs, (Lit.int .i8 n).wf = true) :
    len ≤ 9223372036854775807 ∧ (0 < len → ∃ b o, a = some ⟨b, o, none⟩ ∧ ∀ i, i < len → ∃ z, w.cell? ⟨b, o + i, none⟩ = some (.int .i8 z) ∧ -128 ≤ z ∧ z ≤ 127) := by
  have hmx : maxLen = 9223372036854775807 := by decide +kernel
  rcases h with ⟨rfl, rfl, rfl, rfl⟩ | ⟨x, rfl, hl, hm, hz, hc, hw⟩
  · exact ⟨by omega, fun h => absurd h (by omega)⟩
  · refine ⟨by omega, fun h0 => ?_⟩
    have hc0 := hc 0 (by omega)
    obtain ⟨b, o, spot⟩ := x
    have hspot : spot = none := by simpa [Addr.add] using World.cell?_spot hc0
    subst hspot
    refine ⟨b, o, rfl, fun i hi => ?_⟩
    have hiz : i < zs.length := by omega
    have h1 := hc i hiz
    rw [addr_add] at h1
    refine ⟨_, h1, ?_⟩
    have e : zs.getD i 0 = zs[i] := by simp [List.getD, List.getElem?_eq_getElem hiz]
    rw [e]
    have h2 := hw zs[i] (List.getElem_mem hiz)
    exact bounds_i8 h2
end Go.Proofs.Ytahfnbgbjphngaa
